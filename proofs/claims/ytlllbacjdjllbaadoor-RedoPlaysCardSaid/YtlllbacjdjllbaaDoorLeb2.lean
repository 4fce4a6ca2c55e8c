
/- The reference's Real: the bytes of a number's key. -/
import Derived.Test.YtlllbacjdjllbaaDoorLeb
namespace Go.Proofs.YtlllbacjdjllbaaDoor
open Go Go.RowKit
set_option linter.unusedVariables false

end Go.Proofs.YtlllbacjdjllbaaDoor
