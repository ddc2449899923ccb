
/- From the row's data to the walk's words: a slice of words of 16 bits. -/
import Derived.Test.YtlpdiamgpnmeoaaRow
import Derived.WideKeyArr2
import Derived.Lib.LaidTab
namespace Go.Proofs.Ytlpdiamgpnmeoaa
open Go.RowKit Go.ChangeShapes Go.WideShapes Go.Deep
set_option linter.unusedVariables false
def nb16 (n : Nat) : Value := .int .u16 (n : Int)
section
variable {H : Type} {enc : TypeId × Value → H} {w : World} {spare : Nat → Bool} {held : Bool}
theorem open_u16s {P : Program} {t e : TypeId} {base fuel : Nat} {A : Option Addr} {len cap : Nat} {x : DataW H × List MemPlace} (ht : P.underlying t = some (.slice e)) (he : P.underlying e = some (.int .u16)) (hc : P.cellsOf e = 1)
    (h : DataW.trod enc P w base spare held fuel t [.slice A len cap] = some x) : ∃ l : List Nat, len = l.length ∧ l.length ≤ cap ∧ cap ≤ maxLen ∧ (∀ n ∈ l, n < 65536) ∧ Rd w w.heap.size A (l.map nb16) := by
  rcases open_ints ht he hc h with ⟨hcs, _⟩ | ⟨a, l, c, zs, hcs, _, hl, hm, hz, _, hcell, hwz⟩
  · simp at hcs
    obtain ⟨rfl, rfl, rfl⟩ := hcs
    exact ⟨[], rfl, Nat.le_refl _, by unfold maxLen; omega, by simp, .inl rfl⟩
  · simp at hcs
    obtain ⟨rfl, rfl, rfl⟩ := hcs
    have hzl : len ≤ zs.length := by rw [hz]; split <;> omega
    refine ⟨(zs.take len).map Int.toNat, by simp; omega, by simp; omega, hm, ?_, rd_of_cells fun i v hv => ?_⟩
    · intro n hn
      simp only [List.mem_map] at hn
      obtain ⟨z, hz1, rfl⟩ := hn
      have := bounds_u16 (hwz z (List.mem_of_mem_take hz1))
      omega
    · have hi : i < len := by
        have := (List.getElem?_eq_some_iff.1 hv).1
        simp at this
        omega
      have hiz : i < zs.length := by omega
      rw [hcell i hiz]
      have hb := bounds_u16 (hwz zs[i] (List.getElem_mem hiz))
      simp [hi, hiz, nb16] at hv
      subst hv
      simp [hiz]
      omega
end
end Go.Proofs.Ytlpdiamgpnmeoaa
