
/- Chains: Verify. -/
import Derived.Test.YtgaefejblmnklaaDoorChJ
import Derived.Test.YtgaefejblmnklaaDoorChK
namespace Go.Proofs.YtgaefejblmnklaaDoor
open Go.RowKit
set_option linter.unusedVariables false
theorem verL_same {m : Nat} {old now : List UInt8} {path : List (List UInt8)} (h1 : 1 ≤ m) (hp : path = []) : verL m m old now path = if old = now then 0 else 20 := by
  subst hp
  have hl : longN m m = 0 := by
    rw [longN_eq h1 (Nat.le_refl _), steps_no (by omega), whole_no (by omega)]
    rfl
  have hm : madeL m m old [] = (old, old) := by
    unfold madeL
    rw [whole_no (by omega), steps_no (by omega)]
    rfl
  unfold verL
  rw [if_neg (by omega), hl, hm]
  by_cases h : old = now
  · rw [if_pos ⟨rfl, by rw [h]⟩, if_pos h]
  · rw [if_neg (fun hh => h (by have := hh.2; injection this with _ h2)), if_neg h]
theorem Verify_any (w : World) (hL : LaidC w) (m n p c : Nat) (A : Option Addr) (old now : List UInt8) (path : List (List UInt8)) (hpl : path.length = p) (hm : m < 18446744073709551616) (hn : n < 18446744073709551616) (ho : old.length = 32) (hw : now.length = 32) (hpa : ∀ x ∈ path, x.length = 32) (hr : Rd w w.heap.size A (path.flatten.map cb)) (hc : p ≤ c) (hc2 : c ≤ 9223372036854775807) (hp : p ≤ 1000000) :
    Calls Tryd.prog 16 #[.agg (kcell m old).toArray, .agg (kcell n now).toArray, .slice A p c] w fun e w' => e = .returned (.int .i64 (verL m n old now path)) ∧ Below w.heap.size w w' := by
  by_cases h : m < 1 ∨ n < m
  · have hv : verL m n old now path = 15 := by unfold verL; rw [if_pos h]
    rw [hv]
    exact Verify_range w m n p c A old now hm hn h
  · have h1 : 1 ≤ m := by omega
    rcases Nat.lt_or_ge m n with hlt | hge
    · by_cases hlong : p = longN m n
      · cases hwh : wholeN m n with
        | true => exact Verify_W w hL m n p c A old now path hpl h1 hlt hn ho hw hpa hr hc hc2 hlong hwh
        | false => exact Verify_N w hL m n p c A old now path hpl h1 hlt hn ho hw hpa hr hc hc2 hlong hwh
      · have hv : verL m n old now path = 20 := by unfold verL; rw [if_neg h, if_neg (fun hh => hlong (by rw [← hpl]; exact hh.1))]
        rw [hv]
        exact Verify_len w m n p c A old now h1 hlt hn hlong hp
    · obtain rfl : m = n := by omega
      rcases Nat.eq_zero_or_pos p with h0 | h0
      · subst h0
        rw [verL_same h1 (List.eq_nil_of_length_eq_zero hpl)]
        exact Verify_same w m c A old now h1 hm ho hw
      · have hl : longN m m = 0 := by
          rw [longN_eq h1 (Nat.le_refl _), steps_no (by omega), whole_no (by omega)]
          rfl
        have hv : verL m m old now path = 20 := by unfold verL; rw [if_neg h, if_neg (fun hh => by have := hh.1; omega)]
        rw [hv]
        exact Verify_more w m p c A old now h1 hm h0
end Go.Proofs.YtgaefejblmnklaaDoor
