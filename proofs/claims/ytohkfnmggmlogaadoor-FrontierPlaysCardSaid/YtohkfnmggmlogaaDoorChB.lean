
/- Chains: bits.TrailingZeros64; what the variables hold; Long. -/
import Derived.Test.YtohkfnmggmlogaaDoorChA
import Derived.Laws.Bits64b
namespace Go.Proofs.YtohkfnmggmlogaaDoor
open Go.RowKit
set_option linter.unusedVariables false
def nb8 (n : Nat) : Value := .int .u8 (n : Int)
theorem tz64_key (x a : Nat) (hx : x < 18446744073709551616) (hx0 : x ≠ 0) (hlow : x &&& (18446744073709551616 - x) = a) :
    IntKind.u64.wrap (bits BinOp.and IntKind.u64 (x : Int) (IntKind.u64.wrap (-(x : Int))) * 285870213051353865) / 288230376151711744 = ((a * 285870213051353865 % 18446744073709551616 / 288230376151711744 : Nat) : Int) := by
  have e1 : IntKind.u64.wrap (-(x : Int)) = ((18446744073709551616 - x : Nat) : Int) := by rw [IntKind.wrap_u64]; omega
  rw [e1, bits_and_u64_nat x _ hx (by omega), hlow, IntKind.wrap_u64]
  omega
/-- How often two divides. -/
def tzN (x : Nat) : Nat := Lib.ctz 64 x
theorem tzN_spec {x : Nat} (h0 : x ≠ 0) (h : x < 18446744073709551616) : tzN x < 64 ∧ ∃ m, x = 2 ^ tzN x * (2 * m + 1) := by
  obtain ⟨m, h1, h2⟩ := Lib.ctzFrom_spec 64 x (by omega) h
  have e : tzN x = Lib.ctzFrom 64 x := by unfold tzN Lib.ctz; rw [if_neg h0]
  rw [e]
  exact ⟨h2, m, h1⟩
theorem getD_map {l : List Nat} {j : Nat} (h : j < l.length) : (l.map nb8)[j]? = some (nb8 (l.getD j 0)) := by
  rw [List.getElem?_map, List.getD_eq_getElem?_getD, List.getElem?_eq_getElem h]
  rfl
end Go.Proofs.YtohkfnmggmlogaaDoor
