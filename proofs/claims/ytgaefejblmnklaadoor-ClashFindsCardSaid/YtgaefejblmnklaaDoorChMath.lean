
/- Chains: how a tree goes on from another one, in plain numbers. -/
import Derived.Test.YtgaefejblmnklaaDoorBase
namespace Go.Proofs.YtgaefejblmnklaaDoor
set_option linter.unusedVariables false
/-- The greatest power of two below. -/
def splitN (n : Nat) : Nat := if n < 2 then 0 else 2 ^ Nat.log2 (n - 1)
theorem split_pow {n : Nat} (h : 2 ≤ n) : ∃ K, splitN n = 2 ^ K ∧ 2 ^ K < n ∧ n ≤ 2 ^ (K + 1) := by
  have h1 : n - 1 ≠ 0 := by omega
  have h2 := Nat.log2_self_le h1
  have h3 := Nat.lt_log2_self (n := n - 1)
  refine ⟨Nat.log2 (n - 1), by unfold splitN; rw [if_neg (by omega)], by omega, by omega⟩
theorem pow_one_le (K : Nat) : 1 ≤ 2 ^ K := Nat.one_le_two_pow
theorem split_eq {K n : Nat} (h1 : 2 ^ K < n) (h2 : n ≤ 2 ^ (K + 1)) : splitN n = 2 ^ K := by
  have hp := pow_one_le K
  obtain ⟨J, hJ, hJ1, hJ2⟩ := split_pow (n := n) (by omega)
  rw [hJ]
  have a1 : J < K + 1 := (Nat.pow_lt_pow_iff_right (by decide : 1 < 2)).1 (Nat.lt_of_lt_of_le hJ1 h2)
  have a2 : K < J + 1 := (Nat.pow_lt_pow_iff_right (by decide : 1 < 2)).1 (Nat.lt_of_lt_of_le h1 hJ2)
  rw [show J = K by omega]
theorem split_lt {n : Nat} (h : 2 ≤ n) : splitN n < n := by
  obtain ⟨K, h1, h2, _⟩ := split_pow h
  rw [h1]
  exact h2
theorem split_pos {n : Nat} (h : 2 ≤ n) : 1 ≤ splitN n := by
  obtain ⟨K, h1, _, _⟩ := split_pow h
  rw [h1]
  exact pow_one_le K
theorem split_le (n : Nat) : splitN n ≤ n := by
  rcases Nat.lt_or_ge n 2 with h | h
  · unfold splitN
    rw [if_pos h]
    exact Nat.zero_le _
  · exact Nat.le_of_lt (split_lt h)
/-- Of m among n, from the top down: is each part the first one? -/
def steps (m n : Nat) : List Bool :=
  if h : 1 ≤ m ∧ m < n then (if m ≤ splitN n then true :: steps m (splitN n) else false :: steps (m - splitN n) (n - splitN n)) else []
termination_by n
decreasing_by
  · exact split_lt (by omega)
  · have := split_pos (n := n) (by omega); omega
theorem steps_no {m n : Nat} (h : ¬ (1 ≤ m ∧ m < n)) : steps m n = [] := by rw [steps, dif_neg h]
theorem steps_true {m n : Nat} (h1 : 1 ≤ m) (h2 : m < n) (h : m ≤ splitN n) : steps m n = true :: steps m (splitN n) := by rw [steps, dif_pos ⟨h1, h2⟩, if_pos h]
theorem steps_false {m n : Nat} (h1 : 1 ≤ m) (h2 : m < n) (h : ¬ m ≤ splitN n) : steps m n = false :: steps (m - splitN n) (n - splitN n) := by rw [steps, dif_pos ⟨h1, h2⟩, if_neg h]
def wholeN (m n : Nat) : Bool := (steps m n).all id
def longN (m n : Nat) : Nat := if m < 1 ∨ n < m then 0 else (steps m n).length + (if wholeN m n then 0 else 1)
/-! ### From below: the walk up along two places -/
def evs (a l : Nat) : Nat × Nat := if a % 2 = 0 ∧ 0 < a then evs (a / 2) (l / 2) else (a, l)
termination_by a
decreasing_by omega
theorem evs_no {a l : Nat} (h : ¬ (a % 2 = 0 ∧ 0 < a)) : evs a l = (a, l) := by rw [evs, if_neg h]
theorem evs_yes {a l : Nat} (h : a % 2 = 0 ∧ 0 < a) : evs a l = evs (a / 2) (l / 2) := by rw [evs, if_pos h]
/-- One hash more: is it on the right (true)? The places above. -/
def stp (a l : Nat) : Bool × Nat × Nat := if a % 2 = 1 ∨ a = l then (false, (evs a l).1 / 2, (evs a l).2 / 2) else (true, a / 2, l / 2)
theorem stp_odd {a l : Nat} (h : a % 2 = 1) : stp a l = (false, a / 2, l / 2) := by
  unfold stp
  rw [if_pos (.inl h), evs_no (by omega)]
theorem stp_eq {a : Nat} : stp a a = (false, (evs a a).1 / 2, (evs a a).2 / 2) := by
  unfold stp
  rw [if_pos (.inr rfl)]
theorem stp_right {a l : Nat} (h : a % 2 = 0) (h2 : a ≠ l) : stp a l = (true, a / 2, l / 2) := by
  unfold stp
  rw [if_neg (by omega)]
/-- These directions are gone, and the top is reached. -/
def Runs : List Bool → Nat → Nat → Prop
  | [], a, l => a = 0 ∧ l = 0
  | d :: ds, a, l => l ≠ 0 ∧ (stp a l).1 = d ∧ Runs ds (stp a l).2.1 (stp a l).2.2
theorem pow_succ2 (r : Nat) : 2 ^ (r + 1) = 2 * 2 ^ r := by rw [Nat.pow_succ, Nat.mul_comm]
theorem runsA : ∀ (ds : List Bool) (a r L : Nat), Runs ds a (2 ^ r - 1) → a < 2 ^ r → 2 ^ r ≤ L → L < 2 ^ (r + 1) → Runs (ds ++ [true]) a L
  | [], a, r, L, h, ha, h1, h2 => by
    obtain ⟨rfl, h3⟩ := h
    have hp := pow_one_le r
    rw [pow_succ2] at h2
    obtain rfl : L = 1 := by omega
    exact ⟨by decide, by rw [stp_right (by decide) (by decide)], by rw [stp_right (by decide) (by decide)]; exact ⟨rfl, rfl⟩⟩
  | d :: ds, a, r, L, h, ha, h1, h2 => by
    obtain ⟨h3, h4, h5⟩ := h
    cases r with
    | zero => simp at h3
    | succ r =>
      rw [pow_succ2] at *
      have hp := pow_one_le r
      have hpe := pow_succ2 r
      by_cases ho : a % 2 = 1
      · rw [stp_odd ho] at h4 h5
        refine ⟨by omega, by rw [stp_odd ho]; exact h4, ?_⟩
        rw [stp_odd ho]
        exact runsA ds (a / 2) r (L / 2) (by rw [show (2 * 2 ^ r - 1) / 2 = 2 ^ r - 1 by omega] at h5; exact h5) (by omega) (by omega) (by omega)
      · have hne : a ≠ 2 * 2 ^ r - 1 := by omega
        rw [stp_right (by omega) hne] at h4 h5
        refine ⟨by omega, by rw [stp_right (by omega) (by omega)]; exact h4, ?_⟩
        rw [stp_right (by omega) (by omega)]
        exact runsA ds (a / 2) r (L / 2) (by rw [show (2 * 2 ^ r - 1) / 2 = 2 ^ r - 1 by omega] at h5; exact h5) (by omega) (by omega) (by omega)
theorem evs_pow : ∀ r : Nat, evs (2 ^ r) (2 ^ r) = (1, 1)
  | 0 => evs_no (by decide)
  | r + 1 => by
    have hp := pow_one_le r
    rw [pow_succ2, evs_yes (by omega), show 2 * 2 ^ r / 2 = 2 ^ r by omega]
    exact evs_pow r
/-- Shifted up till it is odd, beside a higher bit. -/
theorem evs_add : ∀ (a : Nat), 0 < a → ∀ (l r : Nat), a < 2 ^ r → l < 2 ^ r → a ≤ l → ∃ r', 0 < r' ∧ evs (a + 2 ^ r) (l + 2 ^ r) = ((evs a l).1 + 2 ^ r', (evs a l).2 + 2 ^ r') ∧ (evs a l).2 < 2 ^ r' ∧ (evs a l).1 ≤ (evs a l).2 := by
  intro a
  induction a using Nat.strongRecOn with
  | ind a ih =>
    intro h0 l r ha hl hal
    cases r with
    | zero => omega
    | succ r =>
      have hp := pow_one_le r
      by_cases he : a % 2 = 0
      · cases r with
        | zero => rw [pow_succ2] at ha; simp at ha; omega
        | succ r =>
          rw [evs_yes ⟨he, h0⟩, evs_yes (a := a + 2 ^ (r + 1 + 1)) ⟨by rw [pow_succ2]; omega, by omega⟩]
          rw [show (a + 2 ^ (r + 1 + 1)) / 2 = a / 2 + 2 ^ (r + 1) by rw [pow_succ2 (r + 1)]; omega, show (l + 2 ^ (r + 1 + 1)) / 2 = l / 2 + 2 ^ (r + 1) by rw [pow_succ2 (r + 1)]; omega]
          rw [pow_succ2 (r + 1)] at ha hl
          exact ih (a / 2) (by omega) (by omega) (l / 2) (r + 1) (by omega) (by omega) (by omega)
      · rw [evs_no (a := a) (l := l) (by omega), evs_no (a := a + 2 ^ (r + 1)) (by have := pow_succ2 r; omega)]
        exact ⟨r + 1, by omega, rfl, hl, hal⟩
theorem runsB : ∀ (ds : List Bool) (a l r : Nat), Runs ds a l → l < 2 ^ r → a ≤ l → Runs (ds ++ [false]) (a + 2 ^ r) (l + 2 ^ r)
  | [], a, l, r, h, h1, h2 => by
    obtain ⟨rfl, rfl⟩ := h
    have hp := pow_one_le r
    rw [Nat.zero_add]
    refine ⟨by omega, by rw [stp_eq], ?_⟩
    rw [stp_eq, evs_pow]
    exact ⟨rfl, rfl⟩
  | d :: ds, a, l, r, h, h1, h2 => by
    obtain ⟨h3, h4, h5⟩ := h
    have hp := pow_one_le r
    have key : ∃ r', stp (a + 2 ^ r) (l + 2 ^ r) = ((stp a l).1, (stp a l).2.1 + 2 ^ r', (stp a l).2.2 + 2 ^ r') ∧ (stp a l).2.2 < 2 ^ r' ∧ (stp a l).2.1 ≤ (stp a l).2.2 := by
      cases r with
      | zero => omega
      | succ r =>
        have hpr := pow_one_le r
        have hpe := pow_succ2 r
        by_cases ho : a % 2 = 1
        · rw [stp_odd ho, stp_odd (by omega)]
          refine ⟨r, ?_, ?_, ?_⟩
          · simp only [Prod.mk.injEq, true_and]; omega
          · show l / 2 < 2 ^ r; omega
          · show a / 2 ≤ l / 2; omega
        · by_cases hel : a = l
          · subst hel
            rw [stp_eq, stp_eq]
            obtain ⟨r', hr', e1, e2, e3⟩ := evs_add a (by omega) a (r + 1) h1 h1 (Nat.le_refl _)
            rw [e1]
            cases r' with
            | zero => omega
            | succ r' =>
              have hpe' := pow_succ2 r'
              refine ⟨r', ?_, ?_, ?_⟩
              · simp only [Prod.mk.injEq, true_and]; omega
              · show (evs a a).2 / 2 < 2 ^ r'; omega
              · show (evs a a).1 / 2 ≤ (evs a a).2 / 2; omega
          · rw [stp_right (by omega) hel, stp_right (by omega) (by omega)]
            refine ⟨r, ?_, ?_, ?_⟩
            · simp only [Prod.mk.injEq, true_and]; omega
            · show l / 2 < 2 ^ r; omega
            · show a / 2 ≤ l / 2; omega
    obtain ⟨r', k1, k2, k3⟩ := key
    refine ⟨by omega, by rw [k1]; exact h4, ?_⟩
    rw [k1]
    exact runsB ds _ _ r' h5 k2 k3
/-- The walk up goes the steps, from below. -/
theorem runs_steps : ∀ (n m t x : Nat), m = 2 ^ t * (2 * x + 1) → m < n → Runs (steps m n).reverse ((m - 1) / 2 ^ t) ((n - 1) / 2 ^ t) := by
  intro n
  induction n using Nat.strongRecOn with
  | ind n ih =>
    intro m t x hm hmn
    have hpt := pow_one_le t
    have h1m : 1 ≤ m := by rw [hm]; exact Nat.le_trans hpt (Nat.le_mul_of_pos_right _ (by omega))
    have htm : 2 ^ t ≤ m := by rw [hm]; exact Nat.le_mul_of_pos_right _ (by omega)
    obtain ⟨K, hK, hK1, hK2⟩ := split_pow (n := n) (by omega)
    have hpK := pow_one_le K
    have htK : t ≤ K := by
      have : 2 ^ t < 2 ^ (K + 1) := by omega
      have := (Nat.pow_lt_pow_iff_right (by decide : 1 < 2)).1 this
      omega
    obtain ⟨d, rfl⟩ : ∃ d, K = t + d := ⟨K - t, by omega⟩
    have hpow : 2 ^ (t + d) = 2 ^ t * 2 ^ d := Nat.pow_add 2 t d
    have hpd := pow_one_le d
    have hq : ∀ y, y / 2 ^ t < 2 ^ d ↔ y < 2 ^ (t + d) := fun y => by rw [hpow, Nat.div_lt_iff_lt_mul (by omega), Nat.mul_comm]
    have hsub : ∀ y, 2 ^ (t + d) ≤ y → y / 2 ^ t = (y - 2 ^ (t + d)) / 2 ^ t + 2 ^ d := fun y hy => by
      rw [hpow] at hy ⊢
      rw [← Nat.add_mul_div_left _ _ (by omega : 0 < 2 ^ t), Nat.sub_add_cancel hy]
    by_cases hle : m ≤ splitN n
    · rw [steps_true h1m hmn hle, List.reverse_cons]
      rw [hK] at hle ⊢
      have hL : 2 ^ d ≤ (n - 1) / 2 ^ t ∧ (n - 1) / 2 ^ t < 2 ^ (d + 1) := by
        constructor
        · rw [Nat.le_div_iff_mul_le (by omega), Nat.mul_comm, ← hpow]; omega
        · rw [Nat.div_lt_iff_lt_mul (by omega), Nat.mul_comm, ← Nat.pow_add, ← Nat.add_assoc]; omega
      have ha : (m - 1) / 2 ^ t < 2 ^ d := (hq _).2 (by omega)
      have hk : (2 ^ (t + d) - 1) / 2 ^ t = 2 ^ d - 1 := by
        have h1 : (2 ^ (t + d) - 1) / 2 ^ t < 2 ^ d := (hq _).2 (by omega)
        have h2 : 2 ^ d - 1 ≤ (2 ^ (t + d) - 1) / 2 ^ t := by
          rw [Nat.le_div_iff_mul_le (by omega), Nat.mul_comm, hpow, Nat.mul_sub, Nat.mul_one]
          omega
        omega
      rcases Nat.lt_or_ge m (2 ^ (t + d)) with hlt | hge
      · have := ih (2 ^ (t + d)) (by omega) m t x hm hlt
        rw [hk] at this
        exact runsA _ _ d _ this ha hL.1 hL.2
      · obtain rfl : m = 2 ^ (t + d) := by omega
        rw [steps_no (by omega)]
        -- m is a power of two: its odd part is 1
        have hd0 : 2 ^ d = 2 * x + 1 := by
          rw [hpow] at hm
          exact Nat.eq_of_mul_eq_mul_left (by omega) hm
        have hd : d = 0 := by
          cases d with
          | zero => rfl
          | succ d => rw [pow_succ2] at hd0; omega
        subst hd
        refine runsA [] _ 0 _ ?_ ha hL.1 hL.2
        exact ⟨by simpa using ha, rfl⟩
    · rw [steps_false h1m hmn hle, List.reverse_cons]
      rw [hK] at hle ⊢
      have hdpos : d ≠ 0 := by
        intro hd
        subst hd
        rw [Nat.add_zero] at *
        rw [pow_succ2] at hK2
        -- 2 ^ t < m < 2 * 2 ^ t
        have h1 : x = 0 := by
          rcases Nat.eq_zero_or_pos x with h | h
          · exact h
          · have : 2 ^ t * 3 ≤ m := by rw [hm]; exact Nat.mul_le_mul_left _ (by omega)
            omega
        subst h1
        omega
      obtain ⟨d', rfl⟩ : ∃ d', d = d' + 1 := ⟨d - 1, by omega⟩
      have hx : 2 ^ d' ≤ x := by
        rcases Nat.lt_or_ge x (2 ^ d') with h | h
        · have : m ≤ 2 ^ (t + (d' + 1)) := by
            rw [hm, hpow, pow_succ2]
            exact Nat.mul_le_mul_left _ (by omega)
          omega
        · exact h
      have hm' : m - 2 ^ (t + (d' + 1)) = 2 ^ t * (2 * (x - 2 ^ d') + 1) := by
        rw [hm, hpow, ← Nat.mul_sub]
        congr 1
        rw [pow_succ2]
        omega
      have := ih (n - 2 ^ (t + (d' + 1))) (by omega) (m - 2 ^ (t + (d' + 1))) t (x - 2 ^ d') hm' (by omega)
      rw [pow_succ2 (t + (d' + 1))] at hK2
      have e1 := hsub (m - 1) (by omega)
      have e2 := hsub (n - 1) (by omega)
      rw [e1, e2]
      rw [show m - 1 - 2 ^ (t + (d' + 1)) = m - 2 ^ (t + (d' + 1)) - 1 by omega, show n - 1 - 2 ^ (t + (d' + 1)) = n - 2 ^ (t + (d' + 1)) - 1 by omega]
      exact runsB _ _ _ _ this ((hq _).2 (by omega)) (Nat.div_le_div_right (by omega))
end Go.Proofs.YtgaefejblmnklaaDoor
