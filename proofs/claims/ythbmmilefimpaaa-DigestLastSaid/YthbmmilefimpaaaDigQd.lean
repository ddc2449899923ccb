
/- DigestLast's walk. -/
import Derived.Test.YthbmmilefimpaaaDigQa
import Derived.Test.YthbmmilefimpaaaDigQb
import Derived.Test.YthbmmilefimpaaaDigQc
namespace Go.Proofs.Ythbmmilefimpaaa
open Go.RowKit
theorem DigestLast_walk (w : World) (x : Int) (hx : (Lit.int .u8 x).wf = true) (y : Int) (hy : (Lit.int .u8 y).wf = true) :
    Calls Try.prog 7 #[.int .u8 x, .int .u8 y] w fun e w' => e = .returned (.bool true) ∧ Below w.heap.size w w' := by
  have hxb := bounds_u8 hx
  have hn : x % 50 = ((x % 50).toNat : Int) := by omega
  rcases Nat.lt_or_ge 32 (x % 50).toNat with h | h
  · exact DigestLast_many w x hx y hy _ hn h
  · rcases Nat.eq_zero_or_pos (x % 50).toNat with h0 | h0
    · exact DigestLast_zero w x hx y hy _ hn h0
    · exact DigestLast_few w x hx y hy _ hn ⟨h0, h⟩
end Go.Proofs.Ythbmmilefimpaaa
