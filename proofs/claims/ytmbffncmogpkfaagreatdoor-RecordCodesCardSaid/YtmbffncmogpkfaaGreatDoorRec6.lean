
/- Contracts of package record: areWrites: the plain side. -/
import Derived.Test.YtmbffncmogpkfaaGreatDoorRec5
import Derived.Test.YtmbffncmogpkfaaGreatDoorSubj
namespace Go.Proofs.YtmbffncmogpkfaaGreatDoor
open Go Go.Proofs Go.RowKit
set_option linter.unusedVariables false
set_option linter.unusedSimpArgs false

/-- a write with its slices. -/
structure WV where
  x : WR
  sa : Option Addr
  sc : Nat
  pa : Option Addr
  pc : Nat
def WV.cells (p : WV) : List Value := cells9 p.x.e p.x.id p.x.g (.slice p.sa p.x.ss.length p.sc) (.slice p.pa p.x.ps.length p.pc) p.x.ed.a p.x.ed.b p.x.ed.t p.x.ed.w
def WV.rows (W : World) (p : WV) : Prop := RowAt W (.slice p.sa p.x.ss.length p.sc) (p.x.ss.map strV) ∧ RowK 6 W (.slice p.pa p.x.ps.length p.pc) (p.x.ps.map PR.cells)
def okWR (x : WR) : Prop := (∀ s ∈ x.ss, s.length ≤ 9223372036854775807) ∧ (∀ p ∈ x.ps, p.key.length ≤ 9223372036854775807) ∧ x.ps.length ≤ 4398046511104 ∧ x.ss.length ≤ 4398046511104 ∧ x.ed.t.length ≤ 9223372036854775807 ∧ x.ed.w < W64 ∧ i64R x.id
def areW (nodes edges : Int) : List (Bool × Int) → List WR → Bool
  | _, [] => (decide (0 ≤ nodes) && decide (nodes ≤ 24)) && (decide (0 ≤ edges) && decide (edges ≤ 32))
  | seen, x :: xs => if seen.contains (x.e, x.id) || !writeB nodes edges x then false else areW nodes edges ((x.e, x.id) :: seen) xs
end Go.Proofs.YtmbffncmogpkfaaGreatDoor
