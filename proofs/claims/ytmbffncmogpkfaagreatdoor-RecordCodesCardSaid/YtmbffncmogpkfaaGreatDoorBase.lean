
/- Words that all rows of this seat use: what is known of a slice of integers that came in. -/
import Derived.Test.YtmbffncmogpkfaaGreatDoorRows
import Derived.WalkKit
import Derived.ProofKit
import Derived.Below
namespace Go.Proofs.YtmbffncmogpkfaaGreatDoor
open Go Go.RowKit
/-- A slice of integers that came in: nil; or a row of 'cap' cells, the numbers 'zs'; the first 'len' are its elements. -/
def IsRow (k : IntKind) (w : World) (a : Option Addr) (len cap : Nat) (zs : List Int) : Prop :=
  (a = none ∧ len = 0 ∧ cap = 0 ∧ zs = []) ∨
  ∃ x, a = some x ∧ len ≤ cap ∧ cap ≤ maxLen ∧ zs.length = cap ∧ (∀ i, i < zs.length → w.cell? (x.add i) = some (.int k (zs.getD i 0))) ∧ ∀ n ∈ zs, (Lit.int k n).wf = true
/-- A uint64 that came in is a natural number below 2^64. -/
theorem u64_nat {x : Int} (h : (Lit.int .u64 x).wf = true) : ∃ n : Nat, x = (n : Int) ∧ n < 18446744073709551616 := by
  simp [Lit.wf, IntKind.min, IntKind.max, IntKind.signed, IntKind.bits] at h
  exact ⟨x.toNat, by omega, by omega⟩
theorem Below.step {w w1 w2 : World} (h1 : Below w.heap.size w w1) (h2 : Below w1.heap.size w1 w2) : Below w.heap.size w w2 := h1.trans (h2.mono h1.size)
end Go.Proofs.YtmbffncmogpkfaaGreatDoor
