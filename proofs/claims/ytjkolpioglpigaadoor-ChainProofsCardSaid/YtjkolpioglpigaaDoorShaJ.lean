
/- SHA-256: awake. -/
import Derived.Test.YtjkolpioglpigaaDoorShaI
namespace Go.Proofs.YtjkolpioglpigaaDoor
open Go.RowKit
set_option linter.unusedVariables false

end Go.Proofs.YtjkolpioglpigaaDoor
