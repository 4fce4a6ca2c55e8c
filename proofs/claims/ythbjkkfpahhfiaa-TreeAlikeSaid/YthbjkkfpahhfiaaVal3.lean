
/- Contracts of package value: named, Is; the laws' known. -/
import Derived.Test.YthbjkkfpahhfiaaVal
import Derived.Test.YthbjkkfpahhfiaaVal2
import Derived.BigQuiet
import Derived.Deep.QuietTactic
namespace Go.Proofs.Ythbjkkfpahhfiaa
open Go Go.Proofs Go.RowKit
set_option linter.unusedVariables false
set_option linter.unusedSimpArgs false


def namedV (x : V5) : V5 := ⟨x.k, if x.k = 1 then x.b else false, if x.k = 2 then x.n else 0, if x.k = 3 then normN x.f else 0, if x.k = 4 then x.t else []⟩
theorem infoVal : (Try.prog.info? 32).map (·.size) = some 5 := by kernel_rfl
/-- has the value just the fields that its kind names? -/
def sameV (x : V5) : Bool := ((namedV x).b == x.b) && ((namedV x).n == x.n) && ((namedV x).t == x.t) && (((namedV x).f : Int) == (x.f : Int))
def isV (x : V5) : Bool := sameV x && decide (0 ≤ x.k) && decide (x.k ≤ 4) && isT x.t
end Go.Proofs.Ythbjkkfpahhfiaa
