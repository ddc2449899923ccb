
/- The peaks of entries, one by one. -/
import Derived.Test.YtohkfnmggmlogaaDoorFrP
namespace Go.Proofs.YtohkfnmggmlogaaDoor
set_option linter.unusedVariables false
/-- Where the k-th part, from the left, begins. -/
def offS (st : List (Nat × List UInt8)) (k : Nat) : Nat := ((st.reverse.take k).map (·.1)).sum
theorem good_size {ls : List (List UInt8)} {st : List (Nat × List UInt8)} (hg : Good ls st) : sizeS st = ls.length := by
  induction hg with
  | nil => rfl
  | @cons front part st j h hl hd ih => rw [sizeS_cons, ih, List.length_append, hl]; exact Nat.add_comm _ _
theorem good_at {ls : List (List UInt8)} {st : List (Nat × List UInt8)} (hg : Good ls st) : ∀ k p, st.reverse[k]? = some p → offS st k + p.1 ≤ ls.length ∧ p.2 = treeR ((ls.drop (offS st k)).take p.1) := by
  induction hg with
  | nil => intro k p hp; simp at hp
  | @cons front part st j h hl hd ih =>
    intro k p hp
    have hsz := good_size h
    rw [List.reverse_cons] at hp
    by_cases hk : k < st.length
    · rw [List.getElem?_append_left (by rw [List.length_reverse]; exact hk)] at hp
      obtain ⟨h1, h2⟩ := ih k p hp
      have ho : offS ((2 ^ j, treeR part) :: st) k = offS st k := by
        unfold offS
        rw [List.reverse_cons, List.take_append_of_le_length (by rw [List.length_reverse]; omega)]
      rw [ho]
      refine ⟨by rw [List.length_append]; omega, ?_⟩
      rw [h2, List.drop_append_of_le_length (by omega), List.take_append_of_le_length (by rw [List.length_drop]; omega)]
    · have hke : k = st.length := by
        have := (List.getElem?_eq_some_iff.1 hp).1
        rw [List.length_append, List.length_reverse, List.length_singleton] at this
        omega
      subst hke
      rw [List.getElem?_append_right (by rw [List.length_reverse]; exact Nat.le_refl _), List.length_reverse, Nat.sub_self] at hp
      injection hp with hp
      subst hp
      have ho : offS ((2 ^ j, treeR part) :: st) st.length = front.length := by
        unfold offS
        rw [List.reverse_cons, List.take_append_of_le_length (by rw [List.length_reverse]; exact Nat.le_refl _), List.take_of_length_le (by rw [List.length_reverse]; exact Nat.le_refl _), ← hsz]
        unfold sizeS
        rw [List.map_reverse, List.sum_reverse]
      rw [ho]
      refine ⟨by rw [List.length_append, hl]; exact Nat.le_refl _, ?_⟩
      rw [List.drop_left, List.take_of_length_le (by rw [hl]; exact Nat.le_refl _)]
/-- The parts of entries, the greatest one first: where each begins, and how many it has. -/
def offP (n k : Nat) : Nat := (((partsR 1 n).reverse).take k).sum
theorem zip_rev {α β : Type} : ∀ (a : List α) (b : List β), a.length = b.length → (a.zip b).reverse = a.reverse.zip b.reverse
  | [], [], _ => rfl
  | x :: a, y :: b, h => by
    have h' : a.length = b.length := by simpa using h
    rw [List.zip_cons_cons, List.reverse_cons, zip_rev a b h', List.reverse_cons, List.reverse_cons, List.zip_append (by rw [List.length_reverse, List.length_reverse, h'])]
    rfl
theorem frs_at (ls : List (List UInt8)) {k s : Nat} (hs : (partsR 1 ls.length).reverse[k]? = some s) : (frs ls).reverse[k]? = some (treeR ((ls.drop (offP ls.length k)).take s)) ∧ offP ls.length k + s ≤ ls.length := by
  obtain ⟨h1, h2⟩ := stk_frs ls
  have hl := partsR_len _ 1 ls.length (Nat.le_refl _)
  have hk : k < (frs ls).length := by
    have := (List.getElem?_eq_some_iff.1 hs).1
    rw [List.length_reverse] at this
    omega
  have hr : (stk ls).reverse = (partsR 1 ls.length).reverse.zip (frs ls).reverse := by
    conv => lhs; rw [h1]
    exact zip_rev _ _ (by omega)
  obtain ⟨p, hp⟩ : ∃ p, (frs ls).reverse[k]? = some p := ⟨_, List.getElem?_eq_getElem (by rw [List.length_reverse]; exact hk)⟩
  have hz : (stk ls).reverse[k]? = some (s, p) := by
    rw [hr, List.getElem?_zip_eq_some]
    exact ⟨hs, hp⟩
  obtain ⟨g1, g2⟩ := good_at (stk_good ls) k _ hz
  have ho : offS (stk ls) k = offP ls.length k := by
    unfold offS offP
    rw [hr, List.map_take, List.map_fst_zip (by rw [List.length_reverse, List.length_reverse]; omega)]
  rw [ho] at g1 g2
  exact ⟨by rw [hp]; exact congrArg some g2, g1⟩
theorem parts7 : partsR 1 7 = [1, 2, 4] := by
  rw [partsR_odd (by decide), partsR_odd (by decide), partsR_odd (by decide)]
  have : partsR (2 * (2 * (2 * 1))) (7 / 2 / 2 / 2) = [] := partsR_zero _
  rw [this]
end Go.Proofs.YtohkfnmggmlogaaDoor
