
/- Chains: more of the steps, in plain numbers. -/
import Derived.Test.YtgaefejblmnklaaDoorChMath
namespace Go.Proofs.YtgaefejblmnklaaDoor
set_option linter.unusedVariables false
theorem steps_len : ∀ (K n m : Nat), n ≤ 2 ^ K → (steps m n).length ≤ K := by
  intro K
  induction K with
  | zero =>
    intro n m h
    rw [steps_no (by simp at h; omega)]
    exact Nat.le_refl 0
  | succ K ih =>
    intro n m h
    by_cases hm : 1 ≤ m ∧ m < n
    · obtain ⟨J, hJ, h1, h2⟩ := split_pow (n := n) (by omega)
      have hJK : J ≤ K := by
        have := (Nat.pow_lt_pow_iff_right (by decide : 1 < 2)).1 (Nat.lt_of_lt_of_le h1 h)
        omega
      have hp : 2 ^ J ≤ 2 ^ K := Nat.pow_le_pow_right (by decide) hJK
      rw [pow_succ2] at h2
      by_cases hle : m ≤ splitN n
      · rw [steps_true hm.1 hm.2 hle]
        have := ih (splitN n) m (by omega)
        simpa using this
      · rw [steps_false hm.1 hm.2 hle]
        have := ih (n - splitN n) (m - splitN n) (by omega)
        simpa using this
    · rw [steps_no hm]
      exact Nat.zero_le _
theorem whole_true {m n : Nat} (h1 : 1 ≤ m) (h2 : m < n) (h : m ≤ splitN n) : wholeN m n = wholeN m (splitN n) := by unfold wholeN; rw [steps_true h1 h2 h]; rfl
theorem whole_false {m n : Nat} (h1 : 1 ≤ m) (h2 : m < n) (h : ¬ m ≤ splitN n) : wholeN m n = false := by unfold wholeN; rw [steps_false h1 h2 h]; rfl
theorem whole_no {m n : Nat} (h : ¬ (1 ≤ m ∧ m < n)) : wholeN m n = true := by unfold wholeN; rw [steps_no h]; rfl
/-- The whole is known just if the size is a power of two. -/
theorem whole_pow {m : Nat} (h1 : 1 ≤ m) : ∀ n, m < n → (wholeN m n = true ↔ ∃ t, m = 2 ^ t) := by
  intro n
  induction n using Nat.strongRecOn with
  | ind n ih =>
    intro hmn
    obtain ⟨J, hJ, hJ1, hJ2⟩ := split_pow (n := n) (by omega)
    by_cases hle : m ≤ splitN n
    · rw [whole_true h1 hmn hle]
      rcases Nat.lt_or_ge m (splitN n) with h | h
      · exact ih _ (by omega) h
      · have : m = 2 ^ J := by omega
        rw [whole_no (by omega)]
        exact ⟨fun _ => ⟨J, this⟩, fun _ => rfl⟩
    · rw [whole_false h1 hmn hle]
      refine ⟨fun h => (by cases h), ?_⟩
      rintro ⟨t, rfl⟩
      rw [hJ] at hle
      have a1 : J < t := (Nat.pow_lt_pow_iff_right (by decide : 1 < 2)).1 (by omega)
      have a2 : t < J + 1 := (Nat.pow_lt_pow_iff_right (by decide : 1 < 2)).1 (by omega)
      omega
theorem longN_eq {m n : Nat} (h1 : 1 ≤ m) (h2 : m ≤ n) : longN m n = (steps m n).length + if wholeN m n then 0 else 1 := by
  unfold longN
  rw [if_neg (by omega)]
theorem longN_no {m n : Nat} (h : m < 1 ∨ n < m) : longN m n = 0 := by
  unfold longN
  rw [if_pos h]
theorem steps_pos {m n : Nat} (h1 : 1 ≤ m) (h2 : m < n) : 1 ≤ (steps m n).length := by
  by_cases hle : m ≤ splitN n
  · rw [steps_true h1 h2 hle]; simp
  · rw [steps_false h1 h2 hle]; simp
theorem longN_le {m n : Nat} (h1 : 1 ≤ m) (h2 : m ≤ n) (hn : n < 18446744073709551616) : longN m n ≤ 65 := by
  have := steps_len 64 n m (by omega)
  rw [longN_eq h1 h2]
  split <;> omega
end Go.Proofs.YtgaefejblmnklaaDoor
