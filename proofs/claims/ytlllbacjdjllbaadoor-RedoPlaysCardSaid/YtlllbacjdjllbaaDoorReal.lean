
/- Contracts of package real and of its reference ligatureref1: each Go function computes the plain function named beside it. -/
import Derived.Test.YtlllbacjdjllbaaDoorRows
import Derived.Test.YtlllbacjdjllbaaDoorFl
import Derived.WalkKit
import Derived.WalkSpells
import Derived.WalkLawsBesides
import Derived.Laws.FloatArith
import Derived.Lib.Hide
import Derived.Handy
namespace Go.Proofs.YtlllbacjdjllbaaDoor
open Go Go.RowKit

@[go_sem] theorem run_negf (x : Nat) (w : World) : (Op.unary .neg (.float .f64 x)).run Tryd.prog w = .ok (.float .f64 (Op.negFloat .f64 x)) w := rfl

/-- is a word a weight: 'f >= 0', as the walk writes it. -/
def weightB (b : Nat) : Bool := FloatKind.f64.format.order b 0 == some .gt || FloatKind.f64.format.order b 0 == some .eq

end Go.Proofs.YtlllbacjdjllbaaDoor
