
/- Chains: bits.TrailingZeros64; what the variables hold; Long. -/
import Derived.Test.YtgaefejblmnklaaDoorChA
import Derived.Laws.Bits64b
namespace Go.Proofs.YtgaefejblmnklaaDoor
open Go.RowKit
set_option linter.unusedVariables false
def nb8 (n : Nat) : Value := .int .u8 (n : Int)
/-- What the variables hold. -/
structure LaidC (w : World) : Prop where
  sha : Laid w
  t : ∀ j v, (Lib.deBruijn64tab.map nb8)[j]? = some v → w.cell? ⟨0, 0 + j, none⟩ = some v
  ht : 0 < w.heap.size
theorem LaidC.below {w w' : World} (h : LaidC w) (hb : Below w.heap.size w w') : LaidC w' :=
  ⟨h.sha.below hb, fun j v hv => (hb.cell (p := ⟨0, 0 + j, none⟩) h.ht).trans (h.t j v hv), Nat.lt_of_lt_of_le h.ht hb.size⟩
theorem tz64_key (x a : Nat) (hx : x < 18446744073709551616) (hx0 : x ≠ 0) (hlow : x &&& (18446744073709551616 - x) = a) :
    IntKind.u64.wrap (bits BinOp.and IntKind.u64 (x : Int) (IntKind.u64.wrap (-(x : Int))) * 285870213051353865) / 288230376151711744 = ((a * 285870213051353865 % 18446744073709551616 / 288230376151711744 : Nat) : Int) := by
  have e1 : IntKind.u64.wrap (-(x : Int)) = ((18446744073709551616 - x : Nat) : Int) := by rw [IntKind.wrap_u64]; omega
  rw [e1, bits_and_u64_nat x _ hx (by omega), hlow, IntKind.wrap_u64]
  omega
set_option maxHeartbeats 1000000 in
theorem tz64_core (x k idx : Nat) (w : World) (hx0 : ((x : Int) == 0) = false)
    (key : IntKind.u64.wrap (bits BinOp.and IntKind.u64 (x : Int) (IntKind.u64.wrap (-(x : Int))) * 285870213051353865) / 288230376151711744 = (idx : Int))
    (hi : idx < 64) (hk : k < 64) (hcell : w.cell? ⟨0, idx, none⟩ = some (.int .u8 k)) :
    Calls Tryd.prog 25 #[.int .u64 x] w fun e w' => e = .returned (.int .i64 k) ∧ w' = w := by
  have hne : ¬ (x : Int) = 0 := by simpa using hx0
  go_enter Tryd.func25, Tryd.ntmps25
  go_wp2_with (simp only [key])
  go_ret
  exact ⟨rfl, rfl⟩
/-- How often two divides. -/
def tzN (x : Nat) : Nat := Lib.ctz 64 x
theorem tzN_spec {x : Nat} (h0 : x ≠ 0) (h : x < 18446744073709551616) : tzN x < 64 ∧ ∃ m, x = 2 ^ tzN x * (2 * m + 1) := by
  obtain ⟨m, h1, h2⟩ := Lib.ctzFrom_spec 64 x (by omega) h
  have e : tzN x = Lib.ctzFrom 64 x := by unfold tzN Lib.ctz; rw [if_neg h0]
  rw [e]
  exact ⟨h2, m, h1⟩
theorem getD_map {l : List Nat} {j : Nat} (h : j < l.length) : (l.map nb8)[j]? = some (nb8 (l.getD j 0)) := by
  rw [List.getElem?_map, List.getD_eq_getElem?_getD, List.getElem?_eq_getElem h]
  rfl
theorem LaidC.at_ {w : World} (h : LaidC w) {j k : Nat} (hj : j < 64) (hk : Lib.deBruijn64tab.getD j 0 = k) : w.cell? ⟨0, j, none⟩ = some (.int .u8 (k : Int)) := by
  have := h.t j _ (getD_map hj)
  rw [hk, Nat.zero_add] at this
  exact this
theorem tz64_any (w : World) (hL : LaidC w) (x : Nat) (h0 : x ≠ 0) (hx : x < 18446744073709551616) :
    Calls Tryd.prog 25 #[.int .u64 x] w fun e w' => e = .returned (.int .i64 (tzN x)) ∧ w' = w := by
  have h := Lib.lowest_bit 64 x h0 hx
  have h2 := Lib.deBruijn64_at _ h.2
  have hc := hL.at_ h2.1 h2.2
  have hk := tz64_key x _ hx h0 h.1
  have hx0 : ((x : Int) == 0) = false := by simp; omega
  have hlt := h.2
  have hi := h2.1
  clear h h2
  exact tz64_core x _ _ w hx0 hk hi hlt hc
end Go.Proofs.YtgaefejblmnklaaDoor
