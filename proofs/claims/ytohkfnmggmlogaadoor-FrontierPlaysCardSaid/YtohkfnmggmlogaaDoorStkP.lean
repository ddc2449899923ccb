
/- The stack of a tree from below: what a round keeps. -/
import Derived.Test.YtohkfnmggmlogaaDoorStack
namespace Go.Proofs.YtohkfnmggmlogaaDoor
set_option linter.unusedVariables false
def sizeS (st : List (Nat × List UInt8)) : Nat := (st.map (·.1)).sum
/-- The stack once the last part has been put in place. -/
def fin : List (Nat × List UInt8) → List (Nat × List UInt8)
  | [] => []
  | p :: r => ins p.1 p.2 r
theorem fin_one (p : Nat × List UInt8) : fin [p] = [p] := by unfold fin ins; rfl
theorem fin_same (s : Nat) (h h' : List UInt8) (r : List (Nat × List UInt8)) : fin ((s, h) :: (s, h') :: r) = fin ((2 * s, nodeL h' h) :: r) := by
  unfold fin
  simp only []
  conv => lhs; unfold ins
  rw [if_pos rfl]
theorem fin_less {s s' : Nat} (h h' : List UInt8) (r : List (Nat × List UInt8)) (hne : s ≠ s') : fin ((s, h) :: (s', h') :: r) = (s, h) :: (s', h') :: r := by
  unfold fin
  simp only []
  unfold ins
  rw [if_neg hne]
theorem sizeS_cons (p : Nat × List UInt8) (r : List (Nat × List UInt8)) : sizeS (p :: r) = p.1 + sizeS r := by
  unfold sizeS
  rw [List.map_cons, List.sum_cons]
theorem sizeS_ins : ∀ (st : List (Nat × List UInt8)) (s : Nat) (h : List UInt8), sizeS (ins s h st) = s + sizeS st := by
  intro st
  induction st with
  | nil => intro s h; rfl
  | cons q r ih =>
    intro s h
    obtain ⟨s', h'⟩ := q
    unfold ins
    split
    · rename_i he
      rw [ih, sizeS_cons]
      show 2 * s + sizeS r = s + (s' + sizeS r)
      omega
    · rw [sizeS_cons]
theorem sizeS_stk (ls : List (List UInt8)) : sizeS (stk ls) = ls.length := by
  have key : ∀ (rest : List (List UInt8)) (st : List (Nat × List UInt8)), sizeS (rest.foldl (fun st b => ins 1 (leafL b) st) st) = sizeS st + rest.length := by
    intro rest
    induction rest with
    | nil => intro st; rfl
    | cons b r ih =>
      intro st
      rw [List.foldl_cons, ih, sizeS_ins, List.length_cons]
      omega
  unfold stk
  rw [key]
  show 0 + ls.length = ls.length
  omega
theorem stk_len (ls : List (List UInt8)) : (stk ls).length ≤ ls.length := by
  have key : ∀ (rest : List (List UInt8)) (st : List (Nat × List UInt8)), (rest.foldl (fun st b => ins 1 (leafL b) st) st).length ≤ st.length + rest.length := by
    intro rest
    induction rest with
    | nil => intro st; exact Nat.le_refl _
    | cons b r ih =>
      intro st
      have h1 := ih (ins 1 (leafL b) st)
      have h2 := (ins_len [] st 1 (leafL b)).1
      rw [List.foldl_cons, List.length_cons]
      omega
  have := key ls []
  unfold stk
  simpa using this
theorem stk_32 (ls : List (List UInt8)) : ∀ p ∈ stk ls, p.2.length = 32 := by
  have key : ∀ (rest : List (List UInt8)) (st : List (Nat × List UInt8)), (∀ p ∈ st, p.2.length = 32) → ∀ p ∈ rest.foldl (fun st b => ins 1 (leafL b) st) st, p.2.length = 32 := by
    intro rest
    induction rest with
    | nil => intro st h; exact h
    | cons b r ih =>
      intro st h
      rw [List.foldl_cons]
      exact ih _ (ins_ok st 1 (leafL b) (leafL_len b) h)
  exact key ls [] (by simp)
end Go.Proofs.YtohkfnmggmlogaaDoor
