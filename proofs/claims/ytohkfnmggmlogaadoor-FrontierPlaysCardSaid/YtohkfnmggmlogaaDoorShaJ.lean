
/- SHA-256: awake. -/
import Derived.Test.YtohkfnmggmlogaaDoorShaI
namespace Go.Proofs.YtohkfnmggmlogaaDoor
open Go.RowKit
set_option linter.unusedVariables false

end Go.Proofs.YtohkfnmggmlogaaDoor
