
/- Chains: Long. -/
import Derived.Test.YtohkfnmggmlogaaDoorChB
import Derived.Test.YtohkfnmggmlogaaDoorChN
namespace Go.Proofs.YtohkfnmggmlogaaDoor
open Go.RowKit
set_option linter.unusedVariables false
end Go.Proofs.YtohkfnmggmlogaaDoor
