
/- Trees: Root. -/
import Derived.Test.YtgaefejblmnklaaDoorChA
import Derived.Test.YtgaefejblmnklaaDoorTree
namespace Go.Proofs.YtgaefejblmnklaaDoor
open Go.RowKit
set_option linter.unusedVariables false
theorem RdBB.takeL {w : World} {B : Nat} {A : Option Addr} {ls : List (List UInt8)} (h : RdBB w B A ls) (k : Nat) : RdBB w B A (ls.take k) := by
  rcases h with h | ⟨b, off, h1, h2, h3⟩
  · subst h; simp [RdBB]
  · refine .inr ⟨b, off, h1, h2, fun i l hl => h3 i l ?_⟩
    rw [List.getElem?_take] at hl
    split at hl
    · exact hl
    · cases hl
theorem RdBB.dropL {w : World} {B b off : Nat} {ls : List (List UInt8)} (h : RdBB w B (some ⟨b, off, none⟩) ls) (k : Nat) : RdBB w B (some ⟨b, off + k, none⟩) (ls.drop k) := by
  rcases h with h | ⟨b', off', h1, h2, h3⟩
  · subst h; simp [RdBB]
  · injection h1 with h1
    injection h1 with h4 h5
    subst h4 h5
    refine .inr ⟨b, off + k, rfl, h2, fun i l hl => ?_⟩
    rw [List.getElem?_drop] at hl
    rw [Nat.add_assoc]
    exact h3 _ l hl
theorem u64_len (n : Nat) (h : n ≤ 140737488355328) : IntKind.u64.wrap (n : Int) = (n : Int) := by simp only [IntKind.wrap, IntKind.bits, IntKind.signed]; simp; omega
end Go.Proofs.YtgaefejblmnklaaDoor
