/-
  No cell of these rows narrows 'for every input' (looked for: loops, veiled, ifaces, maps, wideKeys, modest, calm, conditions, laid).
  DERIVED. THE GIVEN ROWS OF THIS SEAT. 9 by the template 'for every input the law returns true; each argument reads behind the call as it read before'; 0 by the template 'total and deterministic' (their statements: YtbkailelmpbogaaTotals.lean).
  GIVEN WITH THE SEED: the statements are not yours to turn. If you find one false, say at which input.
  Laid BY PROGRAM, IN A SANDBOX (cutbox-rows.mjs): the forced cells as the released guide's own fill.sh prints them over the translation 7cd5223f79cdf680… (all of the seat's roots in one cut). By AI agents, Wed Nov 11 2026. No macro, syntax, notation, axiom, sorry.
-/
import Derived.Test.YtbkailelmpbogaaChecked
import GoSem.Claim
import GoSem.ClaimJoined
import GoSem.ClaimMapViews
import Derived.JoinedTies
import Derived.KernelRfl
namespace Go.Proofs.Ytbkailelmpbogaa
/- THE CELL 'sum', in the pinned program and in every row, IS THE sha256 OF THE DUMP (.gsa) THAT YtbkailelmpbogaaProg.lean LOADS. Nothing in Lean hashes anything: it is a label: what it is worth is what the hold of that sum in a sandbox is worth. -/
noncomputable def Try.pinned : Pinned := { name := "ytbkailelmpbogaa", sum := "7cd5223f79cdf680a4c53bf1e59cd0fe189b5876c0b23b5821b89e10221a77a7", checked := Try.checked }
namespace Rows
def none {H : Type} : Left H := { results := [], args := [] }

/-- 'ligaturelaw1.RealSums': WHATEVER THE INPUT: true; the input reads as it did. -/
def realSumsSpec : ChangeSpec := { name := "realSums", fn := fun _ => fun
  | [d] => { results := [.lit (.bool true)], args := [d] }
  | _ => none }
def realSumsRow : OpenClaim := { program := "ytbkailelmpbogaa", sum := "7cd5223f79cdf680a4c53bf1e59cd0fe189b5876c0b23b5821b89e10221a77a7", func := "ligature/ligaturelaw1.RealSums", spec := "realSums", inPlace := ["math.Float64frombits", "math.Float64bits"], apart := false }
def RealSumsSaid : Prop := realSumsRow.holds Try.pinned (OpenSpec.ofChange realSumsSpec)

/-- ITS FALSE NEIGHBOUR: 'it returns false'. Refute it at one input. -/
def realSumsWrong : ChangeSpec := { name := "realSums", fn := fun _ => fun
  | [d] => { results := [.lit (.bool false)], args := [d] }
  | _ => none }
def RealSumsWrongFalsely : Prop := realSumsRow.holds Try.pinned (OpenSpec.ofChange realSumsWrong)

/-- 'ligaturelaw1.RealBack': WHATEVER THE INPUT: true; the input reads as it did. -/
def realBackSpec : ChangeSpec := { name := "realBack", fn := fun _ => fun
  | [d] => { results := [.lit (.bool true)], args := [d] }
  | _ => none }
def realBackRow : OpenClaim := { program := "ytbkailelmpbogaa", sum := "7cd5223f79cdf680a4c53bf1e59cd0fe189b5876c0b23b5821b89e10221a77a7", func := "ligature/ligaturelaw1.RealBack", spec := "realBack", inPlace := ["math.Float64frombits", "math.Float64bits"], apart := false }
def RealBackSaid : Prop := realBackRow.holds Try.pinned (OpenSpec.ofChange realBackSpec)

/-- ITS FALSE NEIGHBOUR: 'it returns false'. Refute it at one input. -/
def realBackWrong : ChangeSpec := { name := "realBack", fn := fun _ => fun
  | [d] => { results := [.lit (.bool false)], args := [d] }
  | _ => none }
def RealBackWrongFalsely : Prop := realBackRow.holds Try.pinned (OpenSpec.ofChange realBackWrong)

/-- 'ligaturelaw1.RealSigns': WHATEVER THE INPUT: true; the input reads as it did. -/
def realSignsSpec : ChangeSpec := { name := "realSigns", fn := fun _ => fun
  | [d1, d2] => { results := [.lit (.bool true)], args := [d1, d2] }
  | _ => none }
def realSignsRow : OpenClaim := { program := "ytbkailelmpbogaa", sum := "7cd5223f79cdf680a4c53bf1e59cd0fe189b5876c0b23b5821b89e10221a77a7", func := "ligature/ligaturelaw1.RealSigns", spec := "realSigns", inPlace := ["math.Float64frombits", "math.Float64bits"], apart := false }
def RealSignsSaid : Prop := realSignsRow.holds Try.pinned (OpenSpec.ofChange realSignsSpec)

/-- ITS FALSE NEIGHBOUR: 'it returns false'. Refute it at one input. -/
def realSignsWrong : ChangeSpec := { name := "realSigns", fn := fun _ => fun
  | [d1, d2] => { results := [.lit (.bool false)], args := [d1, d2] }
  | _ => none }
def RealSignsWrongFalsely : Prop := realSignsRow.holds Try.pinned (OpenSpec.ofChange realSignsWrong)

/-- 'ligaturelaw1.RealWholes': WHATEVER THE INPUT: true; the input reads as it did. -/
def realWholesSpec : ChangeSpec := { name := "realWholes", fn := fun _ => fun
  | [d1, d2, d3] => { results := [.lit (.bool true)], args := [d1, d2, d3] }
  | _ => none }
def realWholesRow : OpenClaim := { program := "ytbkailelmpbogaa", sum := "7cd5223f79cdf680a4c53bf1e59cd0fe189b5876c0b23b5821b89e10221a77a7", func := "ligature/ligaturelaw1.RealWholes", spec := "realWholes", inPlace := ["math.Float64frombits", "math.Float64bits"], apart := false }
def RealWholesSaid : Prop := realWholesRow.holds Try.pinned (OpenSpec.ofChange realWholesSpec)

/-- ITS FALSE NEIGHBOUR: 'it returns false'. Refute it at one input. -/
def realWholesWrong : ChangeSpec := { name := "realWholes", fn := fun _ => fun
  | [d1, d2, d3] => { results := [.lit (.bool false)], args := [d1, d2, d3] }
  | _ => none }
def RealWholesWrongFalsely : Prop := realWholesRow.holds Try.pinned (OpenSpec.ofChange realWholesWrong)

/-- 'ligaturelaw1.RealOrders': WHATEVER THE INPUT: true; the input reads as it did. -/
def realOrdersSpec : ChangeSpec := { name := "realOrders", fn := fun _ => fun
  | [d1, d2, d3] => { results := [.lit (.bool true)], args := [d1, d2, d3] }
  | _ => none }
def realOrdersRow : OpenClaim := { program := "ytbkailelmpbogaa", sum := "7cd5223f79cdf680a4c53bf1e59cd0fe189b5876c0b23b5821b89e10221a77a7", func := "ligature/ligaturelaw1.RealOrders", spec := "realOrders", inPlace := ["math.Float64frombits", "math.Float64bits"], apart := false }
def RealOrdersSaid : Prop := realOrdersRow.holds Try.pinned (OpenSpec.ofChange realOrdersSpec)

/-- ITS FALSE NEIGHBOUR: 'it returns false'. Refute it at one input. -/
def realOrdersWrong : ChangeSpec := { name := "realOrders", fn := fun _ => fun
  | [d1, d2, d3] => { results := [.lit (.bool false)], args := [d1, d2, d3] }
  | _ => none }
def RealOrdersWrongFalsely : Prop := realOrdersRow.holds Try.pinned (OpenSpec.ofChange realOrdersWrong)

/-- 'ligaturelaw1.RealNaNs': WHATEVER THE INPUT: true; the input reads as it did. -/
def realNaNsSpec : ChangeSpec := { name := "realNaNs", fn := fun _ => fun
  | [d1, d2] => { results := [.lit (.bool true)], args := [d1, d2] }
  | _ => none }
def realNaNsRow : OpenClaim := { program := "ytbkailelmpbogaa", sum := "7cd5223f79cdf680a4c53bf1e59cd0fe189b5876c0b23b5821b89e10221a77a7", func := "ligature/ligaturelaw1.RealNaNs", spec := "realNaNs", inPlace := ["math.Float64frombits", "math.Float64bits"], apart := false }
def RealNaNsSaid : Prop := realNaNsRow.holds Try.pinned (OpenSpec.ofChange realNaNsSpec)

/-- ITS FALSE NEIGHBOUR: 'it returns false'. Refute it at one input. -/
def realNaNsWrong : ChangeSpec := { name := "realNaNs", fn := fun _ => fun
  | [d1, d2] => { results := [.lit (.bool false)], args := [d1, d2] }
  | _ => none }
def RealNaNsWrongFalsely : Prop := realNaNsRow.holds Try.pinned (OpenSpec.ofChange realNaNsWrong)

/-- 'ligaturelaw1.RealTexts': WHATEVER THE INPUT: true; the input reads as it did. -/
def realTextsSpec : ChangeSpec := { name := "realTexts", fn := fun _ => fun
  | [d1, d2] => { results := [.lit (.bool true)], args := [d1, d2] }
  | _ => none }
def realTextsRow : OpenClaim := { program := "ytbkailelmpbogaa", sum := "7cd5223f79cdf680a4c53bf1e59cd0fe189b5876c0b23b5821b89e10221a77a7", func := "ligature/ligaturelaw1.RealTexts", spec := "realTexts", inPlace := ["math.Float64frombits", "math.Float64bits"], apart := false }
def RealTextsSaid : Prop := realTextsRow.holds Try.pinned (OpenSpec.ofChange realTextsSpec)

/-- ITS FALSE NEIGHBOUR: 'it returns false'. Refute it at one input. -/
def realTextsWrong : ChangeSpec := { name := "realTexts", fn := fun _ => fun
  | [d1, d2] => { results := [.lit (.bool false)], args := [d1, d2] }
  | _ => none }
def RealTextsWrongFalsely : Prop := realTextsRow.holds Try.pinned (OpenSpec.ofChange realTextsWrong)

/-- 'ligaturelaw1.RealEdges': WHATEVER THE INPUT: true; the input reads as it did. -/
def realEdgesSpec : ChangeSpec := { name := "realEdges", fn := fun _ => fun
  | [d] => { results := [.lit (.bool true)], args := [d] }
  | _ => none }
def realEdgesRow : OpenClaim := { program := "ytbkailelmpbogaa", sum := "7cd5223f79cdf680a4c53bf1e59cd0fe189b5876c0b23b5821b89e10221a77a7", func := "ligature/ligaturelaw1.RealEdges", spec := "realEdges", inPlace := ["math.Float64frombits", "math.Float64bits"], apart := false }
def RealEdgesSaid : Prop := realEdgesRow.holds Try.pinned (OpenSpec.ofChange realEdgesSpec)

/-- ITS FALSE NEIGHBOUR: 'it returns false'. Refute it at one input. -/
def realEdgesWrong : ChangeSpec := { name := "realEdges", fn := fun _ => fun
  | [d] => { results := [.lit (.bool false)], args := [d] }
  | _ => none }
def RealEdgesWrongFalsely : Prop := realEdgesRow.holds Try.pinned (OpenSpec.ofChange realEdgesWrong)

/-- 'ligaturelaw1.RealTells': WHATEVER THE INPUT: true; the input reads as it did. -/
def realTellsSpec : ChangeSpec := { name := "realTells", fn := fun _ => fun
  | [d1, d2] => { results := [.lit (.bool true)], args := [d1, d2] }
  | _ => none }
def realTellsRow : OpenClaim := { program := "ytbkailelmpbogaa", sum := "7cd5223f79cdf680a4c53bf1e59cd0fe189b5876c0b23b5821b89e10221a77a7", func := "ligature/ligaturelaw1.RealTells", spec := "realTells", inPlace := ["math.Float64frombits", "math.Float64bits"], apart := false }
def RealTellsSaid : Prop := realTellsRow.holds Try.pinned (OpenSpec.ofChange realTellsSpec)

/-- ITS FALSE NEIGHBOUR: 'it returns false'. Refute it at one input. -/
def realTellsWrong : ChangeSpec := { name := "realTells", fn := fun _ => fun
  | [d1, d2] => { results := [.lit (.bool false)], args := [d1, d2] }
  | _ => none }
def RealTellsWrongFalsely : Prop := realTellsRow.holds Try.pinned (OpenSpec.ofChange realTellsWrong)

/- THE SECOND FORM. 'bulk': how many values and letters a reading holds, each counted each time it is reached (what is shared counts as often as it is met; a slice's spare places count too). A statement '..UptoSaid' is the law's where the arguments, and the package variables that the reading takes, are together of bulk at most 1048576: NARROWER than '..Said'. Prove '..Said' where nothing that the law and all that it calls make is longer than what came in: it says more and counts as full. Else prove '..UptoSaid'. A law counts once. -/
mutual
def uptoBulk {H : Type} : DataW H → Nat
  | .lit (.string bytes) => bytes.length + 1
  | .lit _ => 1
  | .nil => 1
  | .ptr d => uptoBulk d + 1
  | .slice elems spare => uptoBulkAll elems + uptoBulkAll spare + 1
  | .agg parts => uptoBulkAll parts + 1
  | .iface _ d => uptoBulk d + 1
  | .map entries => uptoBulkEntries entries + 1
  | .held _ => 1
def uptoBulkAll {H : Type} : List (DataW H) → Nat
  | [] => 0
  | d :: r => uptoBulk d + uptoBulkAll r
def uptoBulkEntries {H : Type} : List (Lit × DataW H) → Nat
  | [] => 0
  | x :: r => uptoBulkEntry x + uptoBulkEntries r
def uptoBulkEntry {H : Type} : Lit × DataW H → Nat
  | (.string bytes, d) => bytes.length + uptoBulk d + 1
  | (_, d) => uptoBulk d + 1
 end
def uptoSmall : (H : Type) → List (DataW H) → Bool := fun _ ds => decide (uptoBulkAll ds ≤ 1048576)
def OpenSpec.upto (s : _root_.Go.ChangeSpec) : _root_.Go.OpenSpec := { _root_.Go.OpenSpec.ofChange s with cond := some uptoSmall }

/-- 'ligaturelaw1.RealSums', WHERE WHAT IT READS IS OF BULK AT MOST 1048576: true; the input reads as it did. -/
def realSumsUptoRow : OpenClaim := { program := "ytbkailelmpbogaa", sum := "7cd5223f79cdf680a4c53bf1e59cd0fe189b5876c0b23b5821b89e10221a77a7", func := "ligature/ligaturelaw1.RealSums", spec := "realSums", inPlace := ["math.Float64frombits", "math.Float64bits"], apart := false, narrowed := true }
def RealSumsUptoSaid : Prop := realSumsUptoRow.holds Try.pinned (OpenSpec.upto realSumsSpec)

/-- 'ligaturelaw1.RealBack', WHERE WHAT IT READS IS OF BULK AT MOST 1048576: true; the input reads as it did. -/
def realBackUptoRow : OpenClaim := { program := "ytbkailelmpbogaa", sum := "7cd5223f79cdf680a4c53bf1e59cd0fe189b5876c0b23b5821b89e10221a77a7", func := "ligature/ligaturelaw1.RealBack", spec := "realBack", inPlace := ["math.Float64frombits", "math.Float64bits"], apart := false, narrowed := true }
def RealBackUptoSaid : Prop := realBackUptoRow.holds Try.pinned (OpenSpec.upto realBackSpec)

/-- 'ligaturelaw1.RealSigns', WHERE WHAT IT READS IS OF BULK AT MOST 1048576: true; the input reads as it did. -/
def realSignsUptoRow : OpenClaim := { program := "ytbkailelmpbogaa", sum := "7cd5223f79cdf680a4c53bf1e59cd0fe189b5876c0b23b5821b89e10221a77a7", func := "ligature/ligaturelaw1.RealSigns", spec := "realSigns", inPlace := ["math.Float64frombits", "math.Float64bits"], apart := false, narrowed := true }
def RealSignsUptoSaid : Prop := realSignsUptoRow.holds Try.pinned (OpenSpec.upto realSignsSpec)

/-- 'ligaturelaw1.RealWholes', WHERE WHAT IT READS IS OF BULK AT MOST 1048576: true; the input reads as it did. -/
def realWholesUptoRow : OpenClaim := { program := "ytbkailelmpbogaa", sum := "7cd5223f79cdf680a4c53bf1e59cd0fe189b5876c0b23b5821b89e10221a77a7", func := "ligature/ligaturelaw1.RealWholes", spec := "realWholes", inPlace := ["math.Float64frombits", "math.Float64bits"], apart := false, narrowed := true }
def RealWholesUptoSaid : Prop := realWholesUptoRow.holds Try.pinned (OpenSpec.upto realWholesSpec)

/-- 'ligaturelaw1.RealOrders', WHERE WHAT IT READS IS OF BULK AT MOST 1048576: true; the input reads as it did. -/
def realOrdersUptoRow : OpenClaim := { program := "ytbkailelmpbogaa", sum := "7cd5223f79cdf680a4c53bf1e59cd0fe189b5876c0b23b5821b89e10221a77a7", func := "ligature/ligaturelaw1.RealOrders", spec := "realOrders", inPlace := ["math.Float64frombits", "math.Float64bits"], apart := false, narrowed := true }
def RealOrdersUptoSaid : Prop := realOrdersUptoRow.holds Try.pinned (OpenSpec.upto realOrdersSpec)

/-- 'ligaturelaw1.RealNaNs', WHERE WHAT IT READS IS OF BULK AT MOST 1048576: true; the input reads as it did. -/
def realNaNsUptoRow : OpenClaim := { program := "ytbkailelmpbogaa", sum := "7cd5223f79cdf680a4c53bf1e59cd0fe189b5876c0b23b5821b89e10221a77a7", func := "ligature/ligaturelaw1.RealNaNs", spec := "realNaNs", inPlace := ["math.Float64frombits", "math.Float64bits"], apart := false, narrowed := true }
def RealNaNsUptoSaid : Prop := realNaNsUptoRow.holds Try.pinned (OpenSpec.upto realNaNsSpec)

/-- 'ligaturelaw1.RealTexts', WHERE WHAT IT READS IS OF BULK AT MOST 1048576: true; the input reads as it did. -/
def realTextsUptoRow : OpenClaim := { program := "ytbkailelmpbogaa", sum := "7cd5223f79cdf680a4c53bf1e59cd0fe189b5876c0b23b5821b89e10221a77a7", func := "ligature/ligaturelaw1.RealTexts", spec := "realTexts", inPlace := ["math.Float64frombits", "math.Float64bits"], apart := false, narrowed := true }
def RealTextsUptoSaid : Prop := realTextsUptoRow.holds Try.pinned (OpenSpec.upto realTextsSpec)

/-- 'ligaturelaw1.RealEdges', WHERE WHAT IT READS IS OF BULK AT MOST 1048576: true; the input reads as it did. -/
def realEdgesUptoRow : OpenClaim := { program := "ytbkailelmpbogaa", sum := "7cd5223f79cdf680a4c53bf1e59cd0fe189b5876c0b23b5821b89e10221a77a7", func := "ligature/ligaturelaw1.RealEdges", spec := "realEdges", inPlace := ["math.Float64frombits", "math.Float64bits"], apart := false, narrowed := true }
def RealEdgesUptoSaid : Prop := realEdgesUptoRow.holds Try.pinned (OpenSpec.upto realEdgesSpec)

/-- 'ligaturelaw1.RealTells', WHERE WHAT IT READS IS OF BULK AT MOST 1048576: true; the input reads as it did. -/
def realTellsUptoRow : OpenClaim := { program := "ytbkailelmpbogaa", sum := "7cd5223f79cdf680a4c53bf1e59cd0fe189b5876c0b23b5821b89e10221a77a7", func := "ligature/ligaturelaw1.RealTells", spec := "realTells", inPlace := ["math.Float64frombits", "math.Float64bits"], apart := false, narrowed := true }
def RealTellsUptoSaid : Prop := realTellsUptoRow.holds Try.pinned (OpenSpec.upto realTellsSpec)

end Rows
end Go.Proofs.Ytbkailelmpbogaa
