
/- From the row's data to the walk's words: a slice of keys. -/
import Derived.Test.YthbmmilefimpaaaRowL
import Derived.Test.YthbmmilefimpaaaDigA
import Derived.ChangeSame
namespace Go.Proofs.Ythbmmilefimpaaa
open Go.RowKit Go.ChangeShapes Go.WideShapes Go.Deep
set_option linter.unusedVariables false
section
variable {H : Type} {enc : TypeId × Value → H} {w : World} {spare : Nat → Bool} {held : Bool}
theorem key_cells {base fuel : Nat} {cs : List Value} {x : DataW H × List MemPlace} (hn : cs.length = 33) (hf : DataW.trod enc Try.prog w base spare held fuel 54 cs = some x) : ∃ k : Key, kOk k ∧ cs = kc k := by
  obtain ⟨y1, y2, m, _, _, h1, h2⟩ := trod_struct2 Try.underlying54 hf
  simp only [cells64, cellsH] at h1 h2
  obtain ⟨n, e1, _, w1⟩ := DataW.trod_int Try.underlying50 h1
  obtain ⟨h, hh, e2⟩ := hash_cells (by simp; omega) h2
  have hb := bounds_u64 w1
  refine ⟨(n.toNat, h), ⟨by show n.toNat < _; omega, hh⟩, ?_⟩
  have e3 : cs = (cs.drop 0).take 1 ++ (cs.drop 1).take 32 := by
    rw [List.drop_zero, List.take_of_length_le (l := cs.drop 1) (by simp; omega), List.take_append_drop]
  rw [e3, e1, e2]
  show [Value.int .u64 n] ++ h.map cb = .int .u64 ((n.toNat : Nat) : Int) :: h.map cb
  rw [Int.toNat_of_nonneg hb.1]
  rfl
theorem open_keys {t : TypeId} {base fuel : Nat} {A : Option Addr} {len cap : Nat} {x : DataW H × List MemPlace} (ht : Try.prog.underlying t = some (.slice 54))
    (h : DataW.trod enc Try.prog w base spare held fuel t [.slice A len cap] = some x) : ∃ ls : List Key, len = ls.length ∧ ls.length ≤ cap ∧ cap ≤ maxLen ∧ (∀ l ∈ ls, kOk l) ∧ Rd w w.heap.size A (ls.map kc).flatten := by
  rcases open_slice ht h with ⟨hcs, _⟩ | ⟨a, l, c, m, n, D, Pl, hcs, _, hl, hm, hmm, _, hx⟩
  · simp at hcs
    obtain ⟨rfl, rfl, rfl⟩ := hcs
    exact ⟨[], rfl, Nat.le_refl _, by unfold maxLen; omega, by simp, .inl rfl⟩
  · simp at hcs
    obtain ⟨rfl, rfl, rfl⟩ := hcs
    have hlm : len ≤ m := by rw [hmm]; split <;> omega
    have each : ∀ i, i < len → ∃ r : Key, kOk r ∧ ∀ k v, (kc r)[k]? = some v → w.cell? (a.add (i * 33 + k)) = some v := by
      intro i hi
      obtain ⟨cs', h1, h2⟩ := hx i (by omega)
      rw [cellsK] at h1
      obtain ⟨_, h4, h5⟩ := World.cells?_some h1
      obtain ⟨r, hr, rfl⟩ := key_cells h4 h2
      refine ⟨r, hr, fun k v hv => ?_⟩
      have hk : k < 33 := by
        have := (List.getElem?_eq_some_iff.1 hv).1
        omega
      have := h5 k hk
      rw [add_add] at this
      rw [this]
      exact hv
    have hch : ∀ k, k ≤ len → ∃ ls : List Key, ls.length = k ∧ (∀ r ∈ ls, kOk r) ∧ (ls.map kc).flatten.length = k * 33 ∧ ∀ j v, (ls.map kc).flatten[j]? = some v → w.cell? (a.add j) = some v := by
      intro k
      induction k with
      | zero => intro _; exact ⟨[], rfl, by simp, rfl, by simp⟩
      | succ k ih =>
        intro hk
        obtain ⟨ls, h1, h2, h3, h4⟩ := ih (by omega)
        obtain ⟨r, g1, g2⟩ := each k (by omega)
        refine ⟨ls ++ [r], by simp [h1], ?_, ?_, fun j v hv => ?_⟩
        · intro s hs
          rcases List.mem_append.1 hs with hs | hs
          · exact h2 s hs
          · simp at hs; subst hs; exact g1
        · rw [List.map_append, List.flatten_append, List.length_append, h3]; simp [kc_len g1]; omega
        · rw [List.map_append, List.flatten_append] at hv
          by_cases hj : j < (ls.map kc).flatten.length
          · rw [List.getElem?_append_left hj] at hv; exact h4 j v hv
          · rw [List.getElem?_append_right (by omega)] at hv
            rw [h3] at hj
            rw [h3] at hv
            have := g2 (j - k * 33) v (by simpa using hv)
            rwa [show k * 33 + (j - k * 33) = j by omega] at this
    obtain ⟨ls, h1, h2, h3, h4⟩ := hch len (Nat.le_refl _)
    exact ⟨ls, h1.symm, by omega, hm, h2, rd_of_cells h4⟩
end
end Go.Proofs.Ythbmmilefimpaaa
