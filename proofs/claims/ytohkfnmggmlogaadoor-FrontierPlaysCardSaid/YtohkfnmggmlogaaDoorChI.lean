
/- Chains: Verify of one size; of another number of hashes. -/
import Derived.Test.YtohkfnmggmlogaaDoorChH
namespace Go.Proofs.YtohkfnmggmlogaaDoor
open Go.RowKit
set_option linter.unusedVariables false
end Go.Proofs.YtohkfnmggmlogaaDoor
