
/- Chains: what gathers a proof, the closure in Proof. -/
import Derived.Test.YtgaefejblmnklaaDoorChD
namespace Go.Proofs.YtgaefejblmnklaaDoor
open Go.RowKit
set_option linter.unusedVariables false
theorem len_cb {h : List UInt8} (hl : h.length = 32) : (h.map cb).length = 1 * 32 := by rw [List.length_map, hl]
theorem cells_cb {h : List UInt8} (hl : h.length = 32) : (Value.agg (h.map cb).toArray).cells.size = 32 := by show (h.map cb).toArray.size = 32; rw [List.size_toArray, List.length_map, hl]
theorem slice_hash {w : World} {h : List UInt8} (hl : h.length = 32) : Below w.heap.size w (w.alloc (.cells (Value.agg (h.map cb).toArray).cells 23)) ∧ (FP.sl 1 (h.map cb)).p (.slice (some ⟨w.heap.size, 0, none⟩) 1 1) (w.alloc (.cells (Value.agg (h.map cb).toArray).cells 23)) :=
  ⟨bx_alloc (Below.refl _ _) _, _, _, rfl, rd_of_row (heap_new rfl) (by show (h.map cb).toArray.toList = _; rfl)⟩
/-- More hashes are gathered; all below is as it was. -/
def CapPost (w0 : World) (go gd tf : Nat) (fn : Value) (hs : List (List UInt8)) (e : Ending) (w' : World) : Prop := e = .returned (.tuple #[]) ∧ ∃ vo', Cap w' w0.heap.size go gd tf fn vo' hs ∧ Below w0.heap.size w0 w'
end Go.Proofs.YtgaefejblmnklaaDoor
