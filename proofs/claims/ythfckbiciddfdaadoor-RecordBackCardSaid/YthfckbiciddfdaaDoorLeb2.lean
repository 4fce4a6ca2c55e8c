
/- The reference's Real: the bytes of a number's key. -/
import Derived.Test.YthfckbiciddfdaaDoorLeb
namespace Go.Proofs.YthfckbiciddfdaaDoor
open Go Go.RowKit
set_option linter.unusedVariables false

end Go.Proofs.YthfckbiciddfdaaDoor
