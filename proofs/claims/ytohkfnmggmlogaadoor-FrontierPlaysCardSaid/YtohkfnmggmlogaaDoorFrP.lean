
/- A frontier by values: its peaks, the last one first. -/
import Derived.Test.YtohkfnmggmlogaaDoorStkP
namespace Go.Proofs.YtohkfnmggmlogaaDoor
set_option linter.unusedVariables false
/-- How many bits of a number are 1. -/
def ones (n : Nat) : Nat := if h : n = 0 then 0 else n % 2 + ones (n / 2)
termination_by n
decreasing_by omega
theorem ones_zero : ones 0 = 0 := by rw [ones]; rfl
theorem ones_eq (n : Nat) : ones n = n % 2 + ones (n / 2) := by
  by_cases h : n = 0
  · subst h; rw [show 0 / 2 = 0 from rfl, ones_zero]
  · conv => lhs; rw [ones]
    rw [dif_neg h]
theorem ones_le : ∀ (k n : Nat), n < 2 ^ k → ones n ≤ k
  | 0, n, h => by
    have : n = 0 := by simpa using h
    subst this
    rw [ones_zero]
    exact Nat.le_refl _
  | k + 1, n, h => by
    have h2 : n / 2 < 2 ^ k := by rw [Nat.pow_succ] at h; omega
    have := ones_le k _ h2
    rw [ones_eq]
    omega
/-- The whole parts of a number, the least one first. -/
def partsR (k n : Nat) : List Nat := if h : n = 0 then [] else if n % 2 = 1 then k :: partsR (2 * k) (n / 2) else partsR (2 * k) (n / 2)
termination_by n
decreasing_by all_goals omega
theorem partsR_zero (k : Nat) : partsR k 0 = [] := by rw [partsR]; rfl
theorem partsR_odd {k n : Nat} (h : n % 2 = 1) : partsR k n = k :: partsR (2 * k) (n / 2) := by
  rw [partsR, dif_neg (by intro h0; subst h0; simp at h), if_pos h]
theorem partsR_even {k n : Nat} (h : n % 2 = 0) : partsR k n = partsR (2 * k) (n / 2) := by
  by_cases h0 : n = 0
  · subst h0; rw [show 0 / 2 = 0 from rfl, partsR_zero, partsR_zero]
  · rw [partsR, dif_neg h0, if_neg (by omega)]
theorem partsR_len : ∀ (m k n : Nat), n ≤ m → (partsR k n).length = ones n
  | 0, k, n, h => by
    obtain rfl : n = 0 := by omega
    rw [partsR_zero, ones_zero]; rfl
  | m + 1, k, n, h => by
    by_cases h0 : n = 0
    · subst h0; rw [partsR_zero, ones_zero]; rfl
    have ih := partsR_len m (2 * k) (n / 2) (by omega)
    rw [ones_eq]
    rcases Nat.mod_two_eq_zero_or_one n with h1 | h1
    · rw [partsR_even h1, ih]; omega
    · rw [partsR_odd h1, List.length_cons, ih]; omega
theorem partsR_ge : ∀ (m k n : Nat), n ≤ m → ∀ x ∈ partsR k n, k ≤ x
  | 0, k, n, h, x, hx => by
    obtain rfl : n = 0 := by omega
    rw [partsR_zero] at hx; cases hx
  | m + 1, k, n, h, x, hx => by
    by_cases h0 : n = 0
    · subst h0; rw [partsR_zero] at hx; cases hx
    rcases Nat.mod_two_eq_zero_or_one n with h1 | h1
    · rw [partsR_even h1] at hx
      have := partsR_ge m (2 * k) (n / 2) (by omega) x hx
      omega
    · rw [partsR_odd h1] at hx
      rcases List.mem_cons.1 hx with rfl | hx
      · exact Nat.le_refl _
      · have := partsR_ge m (2 * k) (n / 2) (by omega) x hx
        omega
theorem partsR_sum : ∀ (m k n : Nat), n ≤ m → (partsR k n).sum = k * n
  | 0, k, n, h => by
    obtain rfl : n = 0 := by omega
    rw [partsR_zero]; rfl
  | m + 1, k, n, h => by
    by_cases h0 : n = 0
    · subst h0; rw [partsR_zero]; rfl
    have ih := partsR_sum m (2 * k) (n / 2) (by omega)
    rcases Nat.mod_two_eq_zero_or_one n with h1 | h1
    · rw [partsR_even h1, ih]
      obtain ⟨q, hq⟩ : ∃ q, n = 2 * q := ⟨n / 2, by omega⟩
      subst hq
      rw [Nat.mul_div_cancel_left _ (by decide), Nat.mul_comm 2 k, Nat.mul_assoc]
    · rw [partsR_odd h1, List.sum_cons, ih]
      obtain ⟨q, hq⟩ : ∃ q, n = 2 * q + 1 := ⟨n / 2, by omega⟩
      subst hq
      rw [show (2 * q + 1) / 2 = q by omega, Nat.mul_comm 2 k, Nat.mul_assoc, Nat.mul_add, Nat.mul_one]
      omega
/-- One more: of as many peaks as bits that are 1. -/
def fadd (x : Nat) : List (List UInt8) → List UInt8 → List (List UInt8)
  | [], h => [h]
  | p :: r, h => if x % 2 = 1 then fadd (x / 2) r (nodeL p h) else h :: p :: r
theorem fadd_even {x : Nat} (st : List (List UInt8)) (h : List UInt8) (hx : x % 2 = 0) : fadd x st h = h :: st := by
  cases st with
  | nil => rfl
  | cons p r => unfold fadd; rw [if_neg (by omega)]
theorem fadd_odd {x : Nat} (p : List UInt8) (r : List (List UInt8)) (h : List UInt8) (hx : x % 2 = 1) : fadd x (p :: r) h = fadd (x / 2) r (nodeL p h) := by
  conv => lhs; unfold fadd
  rw [if_pos hx]
theorem ones_pos {x : Nat} (h : x % 2 = 1) : 1 ≤ ones x := by rw [ones_eq]; omega
theorem fadd_len : ∀ (st : List (List UInt8)) (x : Nat) (h : List UInt8), st.length = ones x → (fadd x st h).length = ones (x + 1)
  | [], x, h, hl => by
    have h0 : x % 2 = 0 := by
      rcases Nat.mod_two_eq_zero_or_one x with h1 | h1
      · exact h1
      · have := ones_pos h1; simp at hl; omega
    have e := ones_eq (x + 1)
    have e2 := ones_eq x
    rw [show (x + 1) / 2 = x / 2 by omega] at e
    simp at hl
    show 1 = _
    omega
  | p :: r, x, h, hl => by
    have e := ones_eq (x + 1)
    have e2 := ones_eq x
    rcases Nat.mod_two_eq_zero_or_one x with h1 | h1
    · rw [fadd_even _ _ h1, List.length_cons, hl]
      rw [show (x + 1) / 2 = x / 2 by omega] at e
      omega
    · rw [fadd_odd _ _ _ h1]
      rw [List.length_cons] at hl
      rw [fadd_len r (x / 2) _ (by omega)]
      rw [show (x + 1) / 2 = x / 2 + 1 by omega] at e
      omega
theorem fadd_32 : ∀ (st : List (List UInt8)) (x : Nat) (h : List UInt8), h.length = 32 → (∀ p ∈ st, p.length = 32) → ∀ p ∈ fadd x st h, p.length = 32
  | [], x, h, hl, hs, p, hp => by
    have : p = h := by simpa [fadd] using hp
    rw [this]; exact hl
  | q :: r, x, h, hl, hs, p, hp => by
    rcases Nat.mod_two_eq_zero_or_one x with h1 | h1
    · rw [fadd_even _ _ h1] at hp
      rcases List.mem_cons.1 hp with rfl | hp
      · exact hl
      · exact hs p hp
    · rw [fadd_odd _ _ _ h1] at hp
      exact fadd_32 r (x / 2) _ (nodeL_len _ _) (fun p hp => hs p (List.mem_cons_of_mem _ hp)) p hp
/-- The stack with sizes, and the one without. -/
theorem ins_zip : ∀ (st : List (List UInt8)) (k x : Nat) (h : List UInt8), 0 < k → st.length = ones x → ins k h ((partsR k x).zip st) = (partsR k (x + 1)).zip (fadd x st h)
  | [], k, x, h, hk, hl => by
    have h0 : x % 2 = 0 := by
      rcases Nat.mod_two_eq_zero_or_one x with h1 | h1
      · exact h1
      · have := ones_pos h1; simp at hl; omega
    rw [List.zip_nil_right, fadd_even _ _ h0, partsR_odd (by omega)]
    show [(k, h)] = _
    rw [List.zip_cons_cons, List.zip_nil_right]
  | p :: r, k, x, h, hk, hl => by
    have e2 := ones_eq x
    rcases Nat.mod_two_eq_zero_or_one x with h1 | h1
    · rw [fadd_even _ _ h1, partsR_odd (n := x + 1) (by omega), show (x + 1) / 2 = x / 2 by omega, List.zip_cons_cons, partsR_even h1]
      have hlen := partsR_len _ (2 * k) (x / 2) (Nat.le_refl _)
      have hge := partsR_ge _ (2 * k) (x / 2) (Nat.le_refl _)
      generalize partsR (2 * k) (x / 2) = L at *
      cases L with
      | nil => rw [List.length_nil] at hlen; rw [List.length_cons] at hl; omega
      | cons a b =>
        have := hge a (List.mem_cons_self ..)
        rw [List.zip_cons_cons]
        unfold ins
        rw [if_neg (by omega)]
    · rw [fadd_odd _ _ _ h1, partsR_odd h1, List.zip_cons_cons]
      conv => lhs; unfold ins
      rw [List.length_cons] at hl
      rw [if_pos rfl, ins_zip r (2 * k) (x / 2) _ (by omega) (by omega), partsR_even (n := x + 1) (by omega), show (x + 1) / 2 = x / 2 + 1 by omega]
/-- The peaks of entries. -/
def frs (ls : List (List UInt8)) : List (List UInt8) := (stk ls).map (·.2)
theorem stk_frs (ls : List (List UInt8)) : stk ls = (partsR 1 ls.length).zip (frs ls) ∧ (frs ls).length = ones ls.length := by
  have key : ∀ (n : Nat) (ls : List (List UInt8)), ls.length = n → stk ls = (partsR 1 ls.length).zip (frs ls) ∧ (frs ls).length = ones ls.length := by
    intro n
    induction n with
    | zero =>
      intro ls h
      have h0 : ls = [] := List.eq_nil_of_length_eq_zero h
      subst h0
      exact ⟨by show stk [] = _; rw [show ([] : List (List UInt8)).length = 0 from rfl, partsR_zero]; rfl, by rw [show ([] : List (List UInt8)).length = 0 from rfl, ones_zero]; rfl⟩
    | succ n ih =>
      intro ls h
      have hne : ls ≠ [] := by intro h0; subst h0; cases h
      obtain ⟨a, b, rfl⟩ : ∃ a b, ls = a ++ [b] := ⟨ls.dropLast, ls.getLast hne, (List.dropLast_concat_getLast hne).symm⟩
      have ha : a.length = n := by simpa using h
      obtain ⟨h1, h2⟩ := ih a ha
      have e := ins_zip (frs a) 1 a.length (leafL b) (by decide) h2
      rw [← h1, ← stk_snoc] at e
      have hl := fadd_len (frs a) a.length (leafL b) h2
      have hpl := partsR_len _ 1 (a.length + 1) (Nat.le_refl _)
      have hf : frs (a ++ [b]) = fadd a.length (frs a) (leafL b) := by
        show (stk (a ++ [b])).map (·.2) = _
        rw [e, List.map_snd_zip (by omega)]
      rw [List.length_append, hf]
      exact ⟨e, hl⟩
  exact key _ ls rfl
theorem frs_snoc (a : List (List UInt8)) (b : List UInt8) : frs (a ++ [b]) = fadd a.length (frs a) (leafL b) := by
  obtain ⟨h1, h2⟩ := stk_frs a
  have e := ins_zip (frs a) 1 a.length (leafL b) (by decide) h2
  rw [← h1, ← stk_snoc] at e
  have hl := fadd_len (frs a) a.length (leafL b) h2
  have hpl := partsR_len _ 1 (a.length + 1) (Nat.le_refl _)
  show (stk (a ++ [b])).map (·.2) = _
  rw [e, List.map_snd_zip (by omega)]
theorem frs_32 (ls : List (List UInt8)) : ∀ p ∈ frs ls, p.length = 32 := by
  intro p hp
  obtain ⟨q, hq, rfl⟩ := List.mem_map.1 hp
  exact stk_32 ls q hq
/-- The root of peaks. -/
def froot : List (List UInt8) → List UInt8
  | [] => shaL []
  | p :: r => r.foldl (fun x q => nodeL q x) p
theorem froot_len (st : List (List UInt8)) (h : ∀ p ∈ st, p.length = 32) : (froot st).length = 32 := by
  cases st with
  | nil => exact shaL_len []
  | cons p r =>
    have key : ∀ (r : List (List UInt8)) (x : List UInt8), x.length = 32 → (r.foldl (fun x q => nodeL q x) x).length = 32 := by
      intro r
      induction r with
      | nil => intro x hx; exact hx
      | cons q r ih => intro x hx; exact ih _ (nodeL_len _ _)
    exact key r p (h p (List.mem_cons_self ..))
theorem froot_frs (ls : List (List UInt8)) : froot (frs ls) = treeR ls := by
  rw [← stk_root]
  show froot ((stk ls).map (·.2)) = _
  cases stk ls with
  | nil => rfl
  | cons p r =>
    show (r.map (·.2)).foldl _ _ = r.foldl _ _
    rw [List.foldl_map]
end Go.Proofs.YtohkfnmggmlogaaDoor
