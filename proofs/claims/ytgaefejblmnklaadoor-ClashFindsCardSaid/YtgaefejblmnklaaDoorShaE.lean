
/- SHA-256: Of, to its chunks. -/
import Derived.Test.YtgaefejblmnklaaDoorShaD
namespace Go.Proofs.YtgaefejblmnklaaDoor
open Go.RowKit
set_option linter.unusedVariables false

def sliceLen : Value → Nat | .slice _ n _ => n | _ => 0
theorem pads_lt {n j : Nat} (h : j < pads n) : (n + 1 + j) % 64 ≠ 56 := by unfold pads at h; omega
theorem pads_eq (n : Nat) : (n + 1 + pads n) % 64 = 56 := by unfold pads; omega
theorem pads_le (n : Nat) : pads n ≤ 63 := by unfold pads; omega
theorem byN_toNat (n : Nat) : (byN n).toNat = n % 256 := by
  unfold byN
  rw [UInt8.toNat_ofNat']
  omega
theorem u64_mul8 (T : Nat) (h : T ≤ 1000000000) : IntKind.u64.wrap ((T : Int) * 8) = ((T * 8 : Nat) : Int) := by
  simp [IntKind.wrap, IntKind.bits, IntKind.signed]
  omega
theorem len8_take (X t : Nat) (ht : t < 8) : (len8 X).take (t + 1) = (len8 X).take t ++ [byN (X / 2 ^ (56 - 8 * t))] := by
  rw [List.take_succ_eq_append_getElem (by simp [len8]; exact ht)]
  simp [len8]
theorem u8_shr (X i : Nat) : IntKind.u8.wrap ((X : Int) / 2 ^ i) = (((byN (X / 2 ^ i)).toNat : Nat) : Int) := by
  rw [byN_toNat]
  simp [IntKind.wrap, IntKind.bits, IntKind.signed]
/-- The row of bytes that is built: l's, and more. -/
def Built (w wr : World) (v : Value) (l : List UInt8) : Prop := wr.ownsRow w.heap.size 5 1 v l.length (l.map cb) ∧ Below w.heap.size w wr
end Go.Proofs.YtgaefejblmnklaaDoor
