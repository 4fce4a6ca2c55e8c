/-
  NARROWER THAN 'FOR EVERY INPUT', by the rows' own cells (each row's printed sentence says how): RedoDead: laid · RedoOfNothing: laid · RedoOrder: laid · RedoTwice: laid · RedoBig: laid · RedoLasts: laid · RedoPlays: laid.
  DERIVED. THE GIVEN ROWS OF THIS SEAT. 7 by the template 'for every input the law returns true; each argument reads behind the call as it read before'; 0 by the template 'total and deterministic' (their statements: YtlllbacjdjllbaaDoorTotals.lean).
  GIVEN WITH THE SEED: the statements are not yours to turn. If you find one false, say at which input.
  Laid BY PROGRAM, IN A SANDBOX (cutbox-rows.mjs): the forced cells as the released guide's own fill.sh prints them over the translation f1e67577704975ae… (all of the seat's roots in one cut). By AI agents, Wed Nov 11 2026. No macro, syntax, notation, axiom, sorry.
-/
import Derived.Test.YtlllbacjdjllbaaDoorChecked
import GoSem.PinnedTables
import GoSem.Claim
import GoSem.ClaimJoined
import GoSem.ClaimMapViews
import Derived.JoinedTies
import Derived.KernelRfl
namespace Go.Proofs.YtlllbacjdjllbaaDoor
/- THE CELL 'sum', in the pinned program and in every row, IS THE sha256 OF THE DUMP (.gsa) THAT YtlllbacjdjllbaaDoorProg.lean LOADS. Nothing in Lean hashes anything: it is a label: what it is worth is what the hold of that sum in a sandbox is worth. -/
noncomputable def Tryd.pinned : Pinned := { name := "ytlllbacjdjllbaadoor", sum := "f1e67577704975aea0ccb3ebf1a9e561c501cdb1a956afce3d1a4058bd8e77c2", checked := Tryd.checked }
namespace Rows
def none {H : Type} : Left H := { results := [], args := [] }

/- WHAT THE LISTED PACKAGE-LEVEL VARIABLES READ AS WHEN THE CALL BEGINS. Each datum BY PROGRAM (the guide's laid-datum.mjs) off the statement by which the dump's own 'gosem.cut.vars' lays the variable. In a bare row this is a premise. The card (YtlllbacjdjllbaaDoorCards.lean) ties it to the program's text. -/
def laid_unicode_utf8_acceptRanges {H : Type} : DataW H := .agg [.agg [.lit (.int .u8 128), .lit (.int .u8 191)], .agg [.lit (.int .u8 160), .lit (.int .u8 191)], .agg [.lit (.int .u8 128), .lit (.int .u8 159)], .agg [.lit (.int .u8 144), .lit (.int .u8 191)], .agg [.lit (.int .u8 128), .lit (.int .u8 143)], .agg [.lit (.int .u8 0), .lit (.int .u8 0)], .agg [.lit (.int .u8 0), .lit (.int .u8 0)], .agg [.lit (.int .u8 0), .lit (.int .u8 0)], .agg [.lit (.int .u8 0), .lit (.int .u8 0)], .agg [.lit (.int .u8 0), .lit (.int .u8 0)], .agg [.lit (.int .u8 0), .lit (.int .u8 0)], .agg [.lit (.int .u8 0), .lit (.int .u8 0)], .agg [.lit (.int .u8 0), .lit (.int .u8 0)], .agg [.lit (.int .u8 0), .lit (.int .u8 0)], .agg [.lit (.int .u8 0), .lit (.int .u8 0)], .agg [.lit (.int .u8 0), .lit (.int .u8 0)]]
/-- One of Go's own tables, pinned by name: the form's constant. -/
def laid_unicode_utf8_first : DataW Unit := Go.Pinned.utf8First

/-- 'ligaturelaw5.RedoDead': WHATEVER THE INPUT: true; the input reads as it did. -/
def redoDeadSpec : ChangeSpec := { name := "redoDead", fn := fun _ => fun
  | [d1, d2] => { results := [.lit (.bool true)], args := [d1, d2] }
  | _ => none }
def redoDeadRow : OpenClaim := { program := "ytlllbacjdjllbaadoor", sum := "f1e67577704975aea0ccb3ebf1a9e561c501cdb1a956afce3d1a4058bd8e77c2", func := "ligature/ligaturelaw5.RedoDead", spec := "redoDead", inPlace := ["internal/bytealg.IndexByteString", "internal/bytealg.IndexString"], named := ["unicode/utf8.first", "unicode/utf8.acceptRanges", "internal/bytealg.MaxLen"], apart := false, laid := [("unicode/utf8.acceptRanges", laid_unicode_utf8_acceptRanges), ("unicode/utf8.first", laid_unicode_utf8_first)] }
def RedoDeadSaid : Prop := redoDeadRow.holds Tryd.pinned (OpenSpec.ofChange redoDeadSpec)

/-- ITS FALSE NEIGHBOUR: 'it returns false'. Refute it at one input. -/
def redoDeadWrong : ChangeSpec := { name := "redoDead", fn := fun _ => fun
  | [d1, d2] => { results := [.lit (.bool false)], args := [d1, d2] }
  | _ => none }
def RedoDeadWrongFalsely : Prop := redoDeadRow.holds Tryd.pinned (OpenSpec.ofChange redoDeadWrong)

/-- 'ligaturelaw5.RedoOfNothing': WHATEVER THE INPUT: true; the input reads as it did. -/
def redoOfNothingSpec : ChangeSpec := { name := "redoOfNothing", fn := fun _ => fun
  | [d1, d2] => { results := [.lit (.bool true)], args := [d1, d2] }
  | _ => none }
def redoOfNothingRow : OpenClaim := { program := "ytlllbacjdjllbaadoor", sum := "f1e67577704975aea0ccb3ebf1a9e561c501cdb1a956afce3d1a4058bd8e77c2", func := "ligature/ligaturelaw5.RedoOfNothing", spec := "redoOfNothing", inPlace := ["internal/bytealg.IndexByteString", "internal/bytealg.IndexString"], named := ["unicode/utf8.first", "unicode/utf8.acceptRanges", "internal/bytealg.MaxLen"], apart := false, laid := [("unicode/utf8.acceptRanges", laid_unicode_utf8_acceptRanges), ("unicode/utf8.first", laid_unicode_utf8_first)] }
def RedoOfNothingSaid : Prop := redoOfNothingRow.holds Tryd.pinned (OpenSpec.ofChange redoOfNothingSpec)

/-- ITS FALSE NEIGHBOUR: 'it returns false'. Refute it at one input. -/
def redoOfNothingWrong : ChangeSpec := { name := "redoOfNothing", fn := fun _ => fun
  | [d1, d2] => { results := [.lit (.bool false)], args := [d1, d2] }
  | _ => none }
def RedoOfNothingWrongFalsely : Prop := redoOfNothingRow.holds Tryd.pinned (OpenSpec.ofChange redoOfNothingWrong)

/-- 'ligaturelaw5.RedoOrder': WHATEVER THE INPUT: true; the input reads as it did. -/
def redoOrderSpec : ChangeSpec := { name := "redoOrder", fn := fun _ => fun
  | [d1, d2] => { results := [.lit (.bool true)], args := [d1, d2] }
  | _ => none }
def redoOrderRow : OpenClaim := { program := "ytlllbacjdjllbaadoor", sum := "f1e67577704975aea0ccb3ebf1a9e561c501cdb1a956afce3d1a4058bd8e77c2", func := "ligature/ligaturelaw5.RedoOrder", spec := "redoOrder", inPlace := ["internal/bytealg.IndexByteString", "internal/bytealg.IndexString"], named := ["unicode/utf8.first", "unicode/utf8.acceptRanges", "internal/bytealg.MaxLen"], apart := false, laid := [("unicode/utf8.acceptRanges", laid_unicode_utf8_acceptRanges), ("unicode/utf8.first", laid_unicode_utf8_first)] }
def RedoOrderSaid : Prop := redoOrderRow.holds Tryd.pinned (OpenSpec.ofChange redoOrderSpec)

/-- ITS FALSE NEIGHBOUR: 'it returns false'. Refute it at one input. -/
def redoOrderWrong : ChangeSpec := { name := "redoOrder", fn := fun _ => fun
  | [d1, d2] => { results := [.lit (.bool false)], args := [d1, d2] }
  | _ => none }
def RedoOrderWrongFalsely : Prop := redoOrderRow.holds Tryd.pinned (OpenSpec.ofChange redoOrderWrong)

/-- 'ligaturelaw5.RedoTwice': WHATEVER THE INPUT: true; the input reads as it did. -/
def redoTwiceSpec : ChangeSpec := { name := "redoTwice", fn := fun _ => fun
  | [d1, d2, d3, d4] => { results := [.lit (.bool true)], args := [d1, d2, d3, d4] }
  | _ => none }
def redoTwiceRow : OpenClaim := { program := "ytlllbacjdjllbaadoor", sum := "f1e67577704975aea0ccb3ebf1a9e561c501cdb1a956afce3d1a4058bd8e77c2", func := "ligature/ligaturelaw5.RedoTwice", spec := "redoTwice", inPlace := ["internal/bytealg.IndexByteString", "internal/bytealg.IndexString"], named := ["unicode/utf8.first", "unicode/utf8.acceptRanges", "internal/bytealg.MaxLen"], apart := false, laid := [("unicode/utf8.acceptRanges", laid_unicode_utf8_acceptRanges), ("unicode/utf8.first", laid_unicode_utf8_first)] }
def RedoTwiceSaid : Prop := redoTwiceRow.holds Tryd.pinned (OpenSpec.ofChange redoTwiceSpec)

/-- ITS FALSE NEIGHBOUR: 'it returns false'. Refute it at one input. -/
def redoTwiceWrong : ChangeSpec := { name := "redoTwice", fn := fun _ => fun
  | [d1, d2, d3, d4] => { results := [.lit (.bool false)], args := [d1, d2, d3, d4] }
  | _ => none }
def RedoTwiceWrongFalsely : Prop := redoTwiceRow.holds Tryd.pinned (OpenSpec.ofChange redoTwiceWrong)

/-- 'ligaturelaw5.RedoBig': WHATEVER THE INPUT: true; the input reads as it did. -/
def redoBigSpec : ChangeSpec := { name := "redoBig", fn := fun _ => fun
  | [d1, d2, d3, d4] => { results := [.lit (.bool true)], args := [d1, d2, d3, d4] }
  | _ => none }
def redoBigRow : OpenClaim := { program := "ytlllbacjdjllbaadoor", sum := "f1e67577704975aea0ccb3ebf1a9e561c501cdb1a956afce3d1a4058bd8e77c2", func := "ligature/ligaturelaw5.RedoBig", spec := "redoBig", inPlace := ["internal/bytealg.IndexByteString", "internal/bytealg.IndexString"], named := ["unicode/utf8.first", "unicode/utf8.acceptRanges", "internal/bytealg.MaxLen"], apart := false, laid := [("unicode/utf8.acceptRanges", laid_unicode_utf8_acceptRanges), ("unicode/utf8.first", laid_unicode_utf8_first)] }
def RedoBigSaid : Prop := redoBigRow.holds Tryd.pinned (OpenSpec.ofChange redoBigSpec)

/-- ITS FALSE NEIGHBOUR: 'it returns false'. Refute it at one input. -/
def redoBigWrong : ChangeSpec := { name := "redoBig", fn := fun _ => fun
  | [d1, d2, d3, d4] => { results := [.lit (.bool false)], args := [d1, d2, d3, d4] }
  | _ => none }
def RedoBigWrongFalsely : Prop := redoBigRow.holds Tryd.pinned (OpenSpec.ofChange redoBigWrong)

/-- 'ligaturelaw5.RedoLasts': WHATEVER THE INPUT: true; the input reads as it did. -/
def redoLastsSpec : ChangeSpec := { name := "redoLasts", fn := fun _ => fun
  | [d1, d2, d3, d4, d5] => { results := [.lit (.bool true)], args := [d1, d2, d3, d4, d5] }
  | _ => none }
def redoLastsRow : OpenClaim := { program := "ytlllbacjdjllbaadoor", sum := "f1e67577704975aea0ccb3ebf1a9e561c501cdb1a956afce3d1a4058bd8e77c2", func := "ligature/ligaturelaw5.RedoLasts", spec := "redoLasts", inPlace := ["internal/bytealg.IndexByteString", "internal/bytealg.IndexString"], named := ["unicode/utf8.first", "unicode/utf8.acceptRanges", "internal/bytealg.MaxLen"], apart := false, laid := [("unicode/utf8.acceptRanges", laid_unicode_utf8_acceptRanges), ("unicode/utf8.first", laid_unicode_utf8_first)] }
def RedoLastsSaid : Prop := redoLastsRow.holds Tryd.pinned (OpenSpec.ofChange redoLastsSpec)

/-- ITS FALSE NEIGHBOUR: 'it returns false'. Refute it at one input. -/
def redoLastsWrong : ChangeSpec := { name := "redoLasts", fn := fun _ => fun
  | [d1, d2, d3, d4, d5] => { results := [.lit (.bool false)], args := [d1, d2, d3, d4, d5] }
  | _ => none }
def RedoLastsWrongFalsely : Prop := redoLastsRow.holds Tryd.pinned (OpenSpec.ofChange redoLastsWrong)

/-- 'ligaturelaw5.RedoPlays': WHATEVER THE INPUT: true; the input reads as it did. -/
def redoPlaysSpec : ChangeSpec := { name := "redoPlays", fn := fun _ => fun
  | [d1, d2] => { results := [.lit (.bool true)], args := [d1, d2] }
  | _ => none }
def redoPlaysRow : OpenClaim := { program := "ytlllbacjdjllbaadoor", sum := "f1e67577704975aea0ccb3ebf1a9e561c501cdb1a956afce3d1a4058bd8e77c2", func := "ligature/ligaturelaw5.RedoPlays", spec := "redoPlays", inPlace := ["internal/bytealg.IndexByteString", "internal/bytealg.IndexString"], named := ["unicode/utf8.first", "unicode/utf8.acceptRanges", "internal/bytealg.MaxLen"], apart := false, laid := [("unicode/utf8.acceptRanges", laid_unicode_utf8_acceptRanges), ("unicode/utf8.first", laid_unicode_utf8_first)] }
def RedoPlaysSaid : Prop := redoPlaysRow.holds Tryd.pinned (OpenSpec.ofChange redoPlaysSpec)

/-- ITS FALSE NEIGHBOUR: 'it returns false'. Refute it at one input. -/
def redoPlaysWrong : ChangeSpec := { name := "redoPlays", fn := fun _ => fun
  | [d1, d2] => { results := [.lit (.bool false)], args := [d1, d2] }
  | _ => none }
def RedoPlaysWrongFalsely : Prop := redoPlaysRow.holds Tryd.pinned (OpenSpec.ofChange redoPlaysWrong)

/- THE SECOND FORM. 'bulk': how many values and letters a reading holds, each counted each time it is reached (what is shared counts as often as it is met; a slice's spare places count too). A statement '..UptoSaid' is the law's where the arguments, and the package variables that the reading takes, are together of bulk at most 1048576: NARROWER than '..Said'. Prove '..Said' where nothing that the law and all that it calls make is longer than what came in: it says more and counts as full. Else prove '..UptoSaid'. A law counts once. -/
mutual
def uptoBulk {H : Type} : DataW H → Nat
  | .lit (.string bytes) => bytes.length + 1
  | .lit _ => 1
  | .nil => 1
  | .ptr d => uptoBulk d + 1
  | .slice elems spare => uptoBulkAll elems + uptoBulkAll spare + 1
  | .agg parts => uptoBulkAll parts + 1
  | .iface _ d => uptoBulk d + 1
  | .map entries => uptoBulkEntries entries + 1
  | .held _ => 1
def uptoBulkAll {H : Type} : List (DataW H) → Nat
  | [] => 0
  | d :: r => uptoBulk d + uptoBulkAll r
def uptoBulkEntries {H : Type} : List (Lit × DataW H) → Nat
  | [] => 0
  | x :: r => uptoBulkEntry x + uptoBulkEntries r
def uptoBulkEntry {H : Type} : Lit × DataW H → Nat
  | (.string bytes, d) => bytes.length + uptoBulk d + 1
  | (_, d) => uptoBulk d + 1
 end
def uptoSmall : (H : Type) → List (DataW H) → Bool := fun _ ds => decide (uptoBulkAll ds ≤ 1048576)
def OpenSpec.upto (s : _root_.Go.ChangeSpec) : _root_.Go.OpenSpec := { _root_.Go.OpenSpec.ofChange s with cond := some uptoSmall }

/-- 'ligaturelaw5.RedoDead', WHERE WHAT IT READS IS OF BULK AT MOST 1048576: true; the input reads as it did. -/
def redoDeadUptoRow : OpenClaim := { program := "ytlllbacjdjllbaadoor", sum := "f1e67577704975aea0ccb3ebf1a9e561c501cdb1a956afce3d1a4058bd8e77c2", func := "ligature/ligaturelaw5.RedoDead", spec := "redoDead", inPlace := ["internal/bytealg.IndexByteString", "internal/bytealg.IndexString"], named := ["unicode/utf8.first", "unicode/utf8.acceptRanges", "internal/bytealg.MaxLen"], apart := false, laid := [("unicode/utf8.acceptRanges", laid_unicode_utf8_acceptRanges), ("unicode/utf8.first", laid_unicode_utf8_first)], narrowed := true }
def RedoDeadUptoSaid : Prop := redoDeadUptoRow.holds Tryd.pinned (OpenSpec.upto redoDeadSpec)

/-- 'ligaturelaw5.RedoOfNothing', WHERE WHAT IT READS IS OF BULK AT MOST 1048576: true; the input reads as it did. -/
def redoOfNothingUptoRow : OpenClaim := { program := "ytlllbacjdjllbaadoor", sum := "f1e67577704975aea0ccb3ebf1a9e561c501cdb1a956afce3d1a4058bd8e77c2", func := "ligature/ligaturelaw5.RedoOfNothing", spec := "redoOfNothing", inPlace := ["internal/bytealg.IndexByteString", "internal/bytealg.IndexString"], named := ["unicode/utf8.first", "unicode/utf8.acceptRanges", "internal/bytealg.MaxLen"], apart := false, laid := [("unicode/utf8.acceptRanges", laid_unicode_utf8_acceptRanges), ("unicode/utf8.first", laid_unicode_utf8_first)], narrowed := true }
def RedoOfNothingUptoSaid : Prop := redoOfNothingUptoRow.holds Tryd.pinned (OpenSpec.upto redoOfNothingSpec)

/-- 'ligaturelaw5.RedoOrder', WHERE WHAT IT READS IS OF BULK AT MOST 1048576: true; the input reads as it did. -/
def redoOrderUptoRow : OpenClaim := { program := "ytlllbacjdjllbaadoor", sum := "f1e67577704975aea0ccb3ebf1a9e561c501cdb1a956afce3d1a4058bd8e77c2", func := "ligature/ligaturelaw5.RedoOrder", spec := "redoOrder", inPlace := ["internal/bytealg.IndexByteString", "internal/bytealg.IndexString"], named := ["unicode/utf8.first", "unicode/utf8.acceptRanges", "internal/bytealg.MaxLen"], apart := false, laid := [("unicode/utf8.acceptRanges", laid_unicode_utf8_acceptRanges), ("unicode/utf8.first", laid_unicode_utf8_first)], narrowed := true }
def RedoOrderUptoSaid : Prop := redoOrderUptoRow.holds Tryd.pinned (OpenSpec.upto redoOrderSpec)

/-- 'ligaturelaw5.RedoTwice', WHERE WHAT IT READS IS OF BULK AT MOST 1048576: true; the input reads as it did. -/
def redoTwiceUptoRow : OpenClaim := { program := "ytlllbacjdjllbaadoor", sum := "f1e67577704975aea0ccb3ebf1a9e561c501cdb1a956afce3d1a4058bd8e77c2", func := "ligature/ligaturelaw5.RedoTwice", spec := "redoTwice", inPlace := ["internal/bytealg.IndexByteString", "internal/bytealg.IndexString"], named := ["unicode/utf8.first", "unicode/utf8.acceptRanges", "internal/bytealg.MaxLen"], apart := false, laid := [("unicode/utf8.acceptRanges", laid_unicode_utf8_acceptRanges), ("unicode/utf8.first", laid_unicode_utf8_first)], narrowed := true }
def RedoTwiceUptoSaid : Prop := redoTwiceUptoRow.holds Tryd.pinned (OpenSpec.upto redoTwiceSpec)

/-- 'ligaturelaw5.RedoBig', WHERE WHAT IT READS IS OF BULK AT MOST 1048576: true; the input reads as it did. -/
def redoBigUptoRow : OpenClaim := { program := "ytlllbacjdjllbaadoor", sum := "f1e67577704975aea0ccb3ebf1a9e561c501cdb1a956afce3d1a4058bd8e77c2", func := "ligature/ligaturelaw5.RedoBig", spec := "redoBig", inPlace := ["internal/bytealg.IndexByteString", "internal/bytealg.IndexString"], named := ["unicode/utf8.first", "unicode/utf8.acceptRanges", "internal/bytealg.MaxLen"], apart := false, laid := [("unicode/utf8.acceptRanges", laid_unicode_utf8_acceptRanges), ("unicode/utf8.first", laid_unicode_utf8_first)], narrowed := true }
def RedoBigUptoSaid : Prop := redoBigUptoRow.holds Tryd.pinned (OpenSpec.upto redoBigSpec)

/-- 'ligaturelaw5.RedoLasts', WHERE WHAT IT READS IS OF BULK AT MOST 1048576: true; the input reads as it did. -/
def redoLastsUptoRow : OpenClaim := { program := "ytlllbacjdjllbaadoor", sum := "f1e67577704975aea0ccb3ebf1a9e561c501cdb1a956afce3d1a4058bd8e77c2", func := "ligature/ligaturelaw5.RedoLasts", spec := "redoLasts", inPlace := ["internal/bytealg.IndexByteString", "internal/bytealg.IndexString"], named := ["unicode/utf8.first", "unicode/utf8.acceptRanges", "internal/bytealg.MaxLen"], apart := false, laid := [("unicode/utf8.acceptRanges", laid_unicode_utf8_acceptRanges), ("unicode/utf8.first", laid_unicode_utf8_first)], narrowed := true }
def RedoLastsUptoSaid : Prop := redoLastsUptoRow.holds Tryd.pinned (OpenSpec.upto redoLastsSpec)

/-- 'ligaturelaw5.RedoPlays', WHERE WHAT IT READS IS OF BULK AT MOST 1048576: true; the input reads as it did. -/
def redoPlaysUptoRow : OpenClaim := { program := "ytlllbacjdjllbaadoor", sum := "f1e67577704975aea0ccb3ebf1a9e561c501cdb1a956afce3d1a4058bd8e77c2", func := "ligature/ligaturelaw5.RedoPlays", spec := "redoPlays", inPlace := ["internal/bytealg.IndexByteString", "internal/bytealg.IndexString"], named := ["unicode/utf8.first", "unicode/utf8.acceptRanges", "internal/bytealg.MaxLen"], apart := false, laid := [("unicode/utf8.acceptRanges", laid_unicode_utf8_acceptRanges), ("unicode/utf8.first", laid_unicode_utf8_first)], narrowed := true }
def RedoPlaysUptoSaid : Prop := redoPlaysUptoRow.holds Tryd.pinned (OpenSpec.upto redoPlaysSpec)

end Rows
end Go.Proofs.YtlllbacjdjllbaaDoor
