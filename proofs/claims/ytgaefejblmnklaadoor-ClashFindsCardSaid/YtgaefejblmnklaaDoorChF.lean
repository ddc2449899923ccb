
/- Chains: Proof. -/
import Derived.Test.YtgaefejblmnklaaDoorChE
import Derived.Laws.EntriesVeiled
namespace Go.Proofs.YtgaefejblmnklaaDoor
open Go.RowKit
set_option linter.unusedVariables false
def PfRet (w : World) (hs : List (List UInt8)) (e : Ending) (w' : World) : Prop := ∃ v, e = .returned (.tuple #[v, .int .i64 0]) ∧ w'.ownsRow w.heap.size 23 32 v hs.length (hs.flatten.map cb) ∧ Below w.heap.size w w'
end Go.Proofs.YtgaefejblmnklaaDoor
