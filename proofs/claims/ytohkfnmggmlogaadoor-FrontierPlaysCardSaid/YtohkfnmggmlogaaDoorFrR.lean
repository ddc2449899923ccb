
/- The parts of a number, bit by bit from the left; rows of noughts. -/
import Derived.Test.YtohkfnmggmlogaaDoorFrE
namespace Go.Proofs.YtohkfnmggmlogaaDoor
open Go.RowKit
set_option linter.unusedVariables false
theorem partsR_split : ∀ (j k lo hi : Nat), lo < 2 ^ j → partsR k (lo + 2 ^ j * hi) = partsR k lo ++ partsR (2 ^ j * k) hi
  | 0, k, lo, hi, h => by
    have : lo = 0 := by simpa using h
    subst this
    rw [partsR_zero, Nat.pow_zero, Nat.one_mul, Nat.one_mul, Nat.zero_add, List.nil_append]
  | j + 1, k, lo, hi, h => by
    have hp : 2 ^ (j + 1) * hi = 2 * (2 ^ j * hi) := by rw [Nat.pow_succ, Nat.mul_comm (2 ^ j) 2, Nat.mul_assoc]
    have hk : 2 ^ j * (2 * k) = 2 ^ (j + 1) * k := by rw [Nat.pow_succ, Nat.mul_assoc]
    have hl : lo / 2 < 2 ^ j := by rw [Nat.pow_succ] at h; omega
    have ih := partsR_split j (2 * k) (lo / 2) hi hl
    rw [hk] at ih
    rw [hp]
    rcases Nat.mod_two_eq_zero_or_one lo with h1 | h1
    · rw [partsR_even (n := lo + 2 * (2 ^ j * hi)) (by omega), show (lo + 2 * (2 ^ j * hi)) / 2 = lo / 2 + 2 ^ j * hi by omega, ih, partsR_even h1]
    · rw [partsR_odd (n := lo + 2 * (2 ^ j * hi)) (by omega), show (lo + 2 * (2 ^ j * hi)) / 2 = lo / 2 + 2 ^ j * hi by omega, ih, partsR_odd h1, List.cons_append]
theorem off_pow (n j : Nat) : offP n (ones (n / 2 ^ j)) = 2 ^ j * (n / 2 ^ j) := by
  have hs := partsR_split j 1 (n % 2 ^ j) (n / 2 ^ j) (Nat.mod_lt _ (Nat.two_pow_pos j))
  rw [Nat.mod_add_div, Nat.mul_one] at hs
  unfold offP
  rw [hs, List.reverse_append, List.take_append_of_le_length (by rw [List.length_reverse, partsR_len _ _ _ (Nat.le_refl _)]; exact Nat.le_refl _), List.take_of_length_le (by rw [List.length_reverse, partsR_len _ _ _ (Nat.le_refl _)]; exact Nat.le_refl _), List.sum_reverse, partsR_sum _ _ _ (Nat.le_refl _)]
theorem half_pow (n j : Nat) : n / 2 ^ (j + 1) = n / 2 ^ j / 2 := by rw [Nat.pow_succ, Nat.div_div_eq_div_mul]
theorem peak_at (n j : Nat) (h : n / 2 ^ j % 2 = 1) : (partsR 1 n).reverse[ones (n / 2 ^ (j + 1))]? = some (2 ^ j) := by
  have hs := partsR_split (j + 1) 1 (n % 2 ^ (j + 1)) (n / 2 ^ (j + 1)) (Nat.mod_lt _ (Nat.two_pow_pos _))
  rw [Nat.mod_add_div, Nat.mul_one] at hs
  have hs2 := partsR_split j 1 (n % 2 ^ j) (n / 2 ^ j) (Nat.mod_lt _ (Nat.two_pow_pos _))
  rw [Nat.mod_add_div, Nat.mul_one] at hs2
  rw [hs2, partsR_odd h, List.reverse_append, List.reverse_cons, half_pow]
  have hl : (partsR (2 * 2 ^ j) (n / 2 ^ j / 2)).reverse.length = ones (n / 2 ^ j / 2) := by rw [List.length_reverse, partsR_len _ _ _ (Nat.le_refl _)]
  rw [List.append_assoc, List.getElem?_append_right (by rw [hl]; exact Nat.le_refl _), hl, Nat.sub_self]
  rfl
theorem ones_step (n j : Nat) : ones (n / 2 ^ j) = n / 2 ^ j % 2 + ones (n / 2 ^ (j + 1)) := by rw [half_pow]; exact ones_eq _
theorem off_step (n j : Nat) : 2 ^ j * (n / 2 ^ j) = 2 ^ (j + 1) * (n / 2 ^ (j + 1)) + 2 ^ j * (n / 2 ^ j % 2) := by
  rw [half_pow, Nat.pow_succ]
  have := Nat.div_add_mod (n / 2 ^ j) 2
  generalize n / 2 ^ j = q at *
  rw [Nat.mul_assoc, ← Nat.mul_add, this]
/-- A row of noughts. -/
def zeroHs (n : Nat) : List (List UInt8) := List.replicate n (List.replicate 32 0)
theorem zeroHs_len (n : Nat) : (zeroHs n).length = n := by simp [zeroHs]
theorem zeroHs_32 (n : Nat) : ∀ h ∈ zeroHs n, h.length = 32 := by
  intro h hh
  rw [List.eq_of_mem_replicate hh]
  rfl
theorem run_mkH (n : Nat) (hn : n ≤ 1000) (w : World) : (Instr.makeSlice 23 (.int .i64 n) (.int .i64 n)).run Tryd.prog w = .ok (.slice (some ⟨w.heap.size, 0, none⟩) n n) (w.alloc (.cells ((zeroHs n).flatten.map cb).toArray tHa)) := by
  obtain ⟨i, zz, hi, hz, hs, hby, hzz⟩ := elHs.info
  have hr := run_make (P := Tryd.prog) w 23 tHa i zz elHs.under hi hz .i64 .i64 n n (by omega) (Int.le_refl _) (by rw [hby]; omega) (by omega)
  simp only [Int.toNat_natCast] at hr
  rw [hr, hzz, hs]
  have : madeCells (Value.agg (List.replicate 32 (cb 0)).toArray).cells (n * 32) = ((zeroHs n).flatten.map cb).toArray := by
    apply Array.toList_inj.1
    unfold zeroHs
    rw [List.flatten_replicate_replicate, List.map_replicate]
    apply List.ext_getElem?
    intro j
    by_cases hj : j < n * 32
    · have h32 : j % 32 < 32 := Nat.mod_lt _ (by decide)
      have key : ∀ (m k : Nat), k < m → (List.replicate m (cb 0)).toArray[k]! = cb 0 := by
        intro m k h
        simp [h]
      rw [List.getElem?_replicate, if_pos hj]
      unfold madeCells
      rw [Array.toList_map, List.getElem?_map, Array.toList_range, List.getElem?_range hj]
      exact congrArg some (key 32 (j % 32) h32)
    · simp [madeCells, hj]
  rw [← this]
end Go.Proofs.YtohkfnmggmlogaaDoor
