
/- From the row's data to the walk's words: what an argument that is a slice of bytes, or of slices of bytes, reads as. -/
import Derived.Test.YtnbjoebdbbhbkaaRows
import Derived.Test.YtnbjoebdbbhbkaaBase
import Derived.ProofKit
import Derived.OpenShut
import Derived.ShutString
import Derived.ChangeOld
import Derived.Deep.Slices
namespace Go.Proofs.Ytnbjoebdbbhbkaa
open Go.ChangeShapes Go.WideShapes Go.ChangeAt Go.RowKit Go.Deep

theorem own_ : ownKnob Try.prog.godebug = none := by kernel_rfl
theorem laidOut_ : laidOutB Try.prog = true := by kernel_rfl

section
variable {H : Type} {enc : TypeId × Value → H} {P : Program} {w : World} {spare : Nat → Bool} {held : Bool}
theorem rd_of_cells {a : Addr} {xs : List Value} (h : ∀ i v, xs[i]? = some v → w.cell? (a.add i) = some v) : Rd w w.heap.size (some a) xs := by
  cases xs with
  | nil => exact .inl rfl
  | cons x r =>
    have h0 := h 0 x rfl
    obtain ⟨b, off, spot⟩ := a
    have hs : spot = none := by simpa [Addr.add] using World.cell?_spot h0
    subst hs
    have hlt := block_lt_of_cell h0
    rw [add_off] at hlt
    refine .inr ⟨b, off, rfl, hlt, fun i v hv => ?_⟩
    rw [← add_off]
    exact h i v hv
theorem open_bytes {t e : TypeId} {base fuel : Nat} {A : Option Addr} {len cap : Nat} {x : DataW H × List MemPlace} (ht : P.underlying t = some (.slice e)) (he : P.underlying e = some (.int .u8)) (hc : P.cellsOf e = 1)
    (h : DataW.trod enc P w base spare held fuel t [.slice A len cap] = some x) : ∃ l : List UInt8, len = l.length ∧ l.length ≤ cap ∧ cap ≤ maxLen ∧ Rd w w.heap.size A (l.map cb) := by
  rcases open_ints ht he hc h with ⟨hcs, _⟩ | ⟨a, l, c, zs, hcs, _, hl, hm, hz, _, hcell, hwz⟩
  · simp at hcs
    obtain ⟨rfl, rfl, rfl⟩ := hcs
    exact ⟨[], rfl, Nat.le_refl _, by unfold maxLen; omega, .inl rfl⟩
  · simp at hcs
    obtain ⟨rfl, rfl, rfl⟩ := hcs
    have hzl : len ≤ zs.length := by rw [hz]; split <;> omega
    refine ⟨(zs.take len).map fun n => UInt8.ofNat n.toNat, by simp; omega, by simp; omega, hm, rd_of_cells fun i v hv => ?_⟩
    have hi : i < len := by
      have := (List.getElem?_eq_some_iff.1 hv).1
      simp at this
      omega
    have hiz : i < zs.length := by omega
    rw [hcell i hiz]
    have hb := bounds_u8 (hwz zs[i] (List.getElem_mem hiz))
    simp [hi, hiz, cb] at hv
    subst hv
    simp [hiz]
    omega
theorem open_rows {t e e' : TypeId} {base fuel : Nat} {A : Option Addr} {len cap : Nat} {x : DataW H × List MemPlace} (ht : P.underlying t = some (.slice e)) (he : P.underlying e = some (.slice e')) (he' : P.underlying e' = some (.int .u8)) (hc : P.cellsOf e = 1) (hc' : P.cellsOf e' = 1)
    (h : DataW.trod enc P w base spare held fuel t [.slice A len cap] = some x) : ∃ ls : List (List UInt8), len = ls.length ∧ ls.length ≤ cap ∧ cap ≤ maxLen ∧ (∀ l ∈ ls, l.length ≤ maxLen) ∧ RdBB w w.heap.size A ls := by
  rcases open_slice1 ht hc h with ⟨hcs, _⟩ | ⟨a, l, c, m, n, V, D, Pl, hcs, _, hl, hm, hmm, _, hx⟩
  · simp at hcs
    obtain ⟨rfl, rfl, rfl⟩ := hcs
    exact ⟨[], rfl, Nat.le_refl _, by unfold maxLen; omega, by simp, .inl rfl⟩
  · simp at hcs
    obtain ⟨rfl, rfl, rfl⟩ := hcs
    have hlm : len ≤ m := by rw [hmm]; split <;> omega
    have each : ∀ i, i < len → ∃ (r : List UInt8) (A' : Option Addr) (c' : Nat), w.cell? (a.add i) = some (.slice A' r.length c') ∧ r.length ≤ c' ∧ c' ≤ maxLen ∧ Rd w w.heap.size A' (r.map cb) := by
      intro i hi
      obtain ⟨h1, h2⟩ := hx i (by omega)
      have hform : ∃ A' l' c', V i = .slice A' l' c' := by
        rcases open_ints he he' hc' h2 with ⟨hcs, _⟩ | ⟨a', l', c', zs, hcs, _⟩
        · simp at hcs; exact ⟨_, _, _, hcs⟩
        · simp at hcs; exact ⟨_, _, _, hcs⟩
      obtain ⟨A', l', c', hV⟩ := hform
      rw [hV] at h1 h2
      obtain ⟨r, rfl, hr1, hr2, hr3⟩ := open_bytes he he' hc' h2
      exact ⟨r, A', c', h1, hr1, hr2, hr3⟩
    have hch : ∀ k, k ≤ len → ∃ ls : List (List UInt8), ls.length = k ∧ (∀ r ∈ ls, r.length ≤ maxLen) ∧ ∀ i r, ls[i]? = some r → ∃ A' c', w.cell? (a.add i) = some (.slice A' r.length c') ∧ r.length ≤ c' ∧ Rd w w.heap.size A' (r.map cb) := by
      intro k
      induction k with
      | zero => intro _; exact ⟨[], rfl, by simp, by simp⟩
      | succ k ih =>
        intro hk
        obtain ⟨ls, h1, h2, h3⟩ := ih (by omega)
        obtain ⟨r, A', c', g1, g2, g3, g4⟩ := each k (by omega)
        refine ⟨ls ++ [r], by simp [h1], ?_, fun i s hs => ?_⟩
        · intro s hs
          rcases List.mem_append.1 hs with hs | hs
          · exact h2 s hs
          · simp at hs; subst hs; omega
        · by_cases hi : i < ls.length
          · rw [List.getElem?_append_left hi] at hs; exact h3 i s hs
          · rw [List.getElem?_append_right (by omega)] at hs
            have hi0 : i - ls.length = 0 := by
              have := (List.getElem?_eq_some_iff.1 hs).1
              simp at this
              omega
            rw [hi0] at hs
            simp at hs
            subst hs
            have : i = k := by omega
            subst this
            exact ⟨A', c', g1, g2, g4⟩
    obtain ⟨ls, h1, h2, h3⟩ := hch len (Nat.le_refl _)
    refine ⟨ls, h1.symm, by omega, hm, h2, ?_⟩
    cases ls with
    | nil => exact .inl rfl
    | cons r0 rest =>
      obtain ⟨A0, c0, g0, _⟩ := h3 0 r0 rfl
      obtain ⟨b, off, spot⟩ := a
      have hs : spot = none := by simpa [Addr.add] using World.cell?_spot g0
      subst hs
      have hlt := block_lt_of_cell g0
      rw [add_off] at hlt
      refine .inr ⟨b, off, rfl, hlt, fun i r hr => ?_⟩
      obtain ⟨A', c', g1, g2, g3⟩ := h3 i r hr
      rw [add_off] at g1
      exact ⟨_, g1, A', c', rfl, g2, g3⟩
end
end Go.Proofs.Ytnbjoebdbbhbkaa
