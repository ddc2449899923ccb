
/- From the row's data to the walk's words: a slice of things done. -/
import Derived.Test.YtnbjoebdbbhbkaaRow
import Derived.Test.YtnbjoebdbbhbkaaDPh
import Derived.ChangeSame
namespace Go.Proofs.Ytnbjoebdbbhbkaa
open Go.RowKit Go.ChangeShapes Go.WideShapes Go.Deep
set_option linter.unusedVariables false
theorem cellsA : Try.prog.cellsOf 49 = 4 := by kernel_rfl
theorem cellsA0 : Try.prog.cellsOf 3 = 1 := by kernel_rfl
theorem cellsA3 : Try.prog.cellsOf 22 = 1 := by kernel_rfl
section
variable {H : Type} {enc : TypeId × Value → H} {w : World} {spare : Nat → Bool} {held : Bool}
theorem slice_form {P : Program} {t e : TypeId} {base fuel : Nat} {cs : List Value} {x : DataW H × List MemPlace} (ht : P.underlying t = some (.slice e)) (h : DataW.trod enc P w base spare held fuel t cs = some x) : ∃ A n c, cs = [.slice A n c] := by
  rcases open_slice ht h with ⟨hcs, _⟩ | ⟨a, l, c, m, n, D, Pl, hcs, _⟩
  · exact ⟨_, _, _, hcs⟩
  · exact ⟨_, _, _, hcs⟩
theorem trod_struct4 {P : Program} {t : TypeId} {f0 f1 f2 f3 : Field} {base fuel : Nat} {cs : List Value} {x : DataW H × List MemPlace} (ht : P.underlying t = some (.struct #[f0, f1, f2, f3])) (h : DataW.trod enc P w base spare held fuel t cs = some x) :
    ∃ y0 y1 y2 y3 n, cs.length = P.cellsOf t ∧ DataW.trod enc P w base spare held n f0.type ((cs.drop f0.offset).take (P.cellsOf f0.type)) = some y0 ∧ DataW.trod enc P w base spare held n f1.type ((cs.drop f1.offset).take (P.cellsOf f1.type)) = some y1 ∧
      DataW.trod enc P w base spare held n f2.type ((cs.drop f2.offset).take (P.cellsOf f2.type)) = some y2 ∧ DataW.trod enc P w base spare held n f3.type ((cs.drop f3.offset).take (P.cellsOf f3.type)) = some y3 := by
  obtain ⟨xs, n, _, rfl, hl, hlen, hf⟩ := DataW.trod_struct ht h
  match xs, hlen with
  | [y0, y1, y2, y3], _ => exact ⟨y0, y1, y2, y3, n, hl, by simpa using hf 0 f0 rfl, by simpa using hf 1 f1 rfl, by simpa using hf 2 f2 rfl, by simpa using hf 3 f3 rfl⟩
theorem act_cells {base fuel : Nat} {cs : List Value} {x : DataW H × List MemPlace} (hf : DataW.trod enc Try.prog w base spare held fuel 49 cs = some x) : ∃ a : ActD, ActOk w a ∧ cs = a.cells := by
  obtain ⟨y0, y1, y2, y3, n, hl, h0, h1, h2, h3⟩ := trod_struct4 Try.underlying49 hf
  rw [cellsA] at hl
  simp only [cellsA0, cellsA3] at h0 h1 h2 h3
  match cs, hl with
  | [v0, v1, v2, v3], _ =>
    have g3 : DataW.trod enc Try.prog w base spare held n 22 [v3] = some y3 := h3
    obtain ⟨z0, e0, _, w0⟩ := DataW.trod_int Try.underlying3 (show DataW.trod enc Try.prog w base spare held n 3 [v0] = some y0 from h0)
    obtain ⟨z1, e1, _, w1⟩ := DataW.trod_int Try.underlying3 (show DataW.trod enc Try.prog w base spare held n 3 [v1] = some y1 from h1)
    obtain ⟨z2, e2, _, w2⟩ := DataW.trod_int Try.underlying3 (show DataW.trod enc Try.prog w base spare held n 3 [v2] = some y2 from h2)
    obtain ⟨A3, n3, c3, e3⟩ := slice_form Try.underlying22 g3
    rw [e3] at g3
    obtain ⟨l, rfl, q1, q2, q3⟩ := open_bytes Try.underlying22 Try.underlying5 (by kernel_rfl) g3
    refine ⟨⟨z0, z1, z2, l, A3, c3⟩, ⟨q3, q1, q2, ?_⟩, ?_⟩
    · show z2 ≤ 9223372036854775807
      simp only [Lit.wf, IntKind.bits, IntKind.signed] at w2
      simp at w2
      omega
    · injection e0 with e0
      injection e1 with e1
      injection e2 with e2
      injection e3 with e3
      rw [e0, e1, e2, e3]
      rfl
theorem open_acts {t : TypeId} {base fuel : Nat} {A : Option Addr} {len cap : Nat} {x : DataW H × List MemPlace} (ht : Try.prog.underlying t = some (.slice 49))
    (h : DataW.trod enc Try.prog w base spare held fuel t [.slice A len cap] = some x) : ∃ ls : List ActD, len = ls.length ∧ ls.length ≤ cap ∧ cap ≤ maxLen ∧ (∀ l ∈ ls, ActOk w l) ∧ Rd w w.heap.size A (ls.map ActD.cells).flatten := by
  rcases open_slice ht h with ⟨hcs, _⟩ | ⟨a, l, c, m, n, D, Pl, hcs, _, hl, hm, hmm, _, hx⟩
  · simp at hcs
    obtain ⟨rfl, rfl, rfl⟩ := hcs
    exact ⟨[], rfl, Nat.le_refl _, by unfold maxLen; omega, by simp, .inl rfl⟩
  · simp at hcs
    obtain ⟨rfl, rfl, rfl⟩ := hcs
    have hlm : len ≤ m := by rw [hmm]; split <;> omega
    have each : ∀ i, i < len → ∃ r : ActD, ActOk w r ∧ ∀ k v, (r.cells)[k]? = some v → w.cell? (a.add (i * 4 + k)) = some v := by
      intro i hi
      obtain ⟨cs', h1, h2⟩ := hx i (by omega)
      rw [cellsA] at h1
      obtain ⟨_, h4, h5⟩ := World.cells?_some h1
      obtain ⟨r, hr, rfl⟩ := act_cells h2
      refine ⟨r, hr, fun k v hv => ?_⟩
      have hk : k < 4 := by
        have := (List.getElem?_eq_some_iff.1 hv).1
        exact this
      have := h5 k hk
      rw [add_add] at this
      rw [this]
      exact hv
    have hch : ∀ k, k ≤ len → ∃ ls : List ActD, ls.length = k ∧ (∀ r ∈ ls, ActOk w r) ∧ (ls.map ActD.cells).flatten.length = k * 4 ∧ ∀ j v, (ls.map ActD.cells).flatten[j]? = some v → w.cell? (a.add j) = some v := by
      intro k
      induction k with
      | zero => intro _; exact ⟨[], rfl, by simp, rfl, by simp⟩
      | succ k ih =>
        intro hk
        obtain ⟨ls, h1, h2, h3, h4⟩ := ih (by omega)
        obtain ⟨r, g1, g2⟩ := each k (by omega)
        refine ⟨ls ++ [r], by simp [h1], ?_, ?_, fun j v hv => ?_⟩
        · intro s hs
          rcases List.mem_append.1 hs with hs | hs
          · exact h2 s hs
          · simp at hs; subst hs; exact g1
        · rw [List.map_append, List.flatten_append, List.length_append, h3]; show k * 4 + (r.cells ++ []).length = _; rw [List.append_nil]; show k * 4 + 4 = _; omega
        · rw [List.map_append, List.flatten_append] at hv
          by_cases hj : j < (ls.map ActD.cells).flatten.length
          · rw [List.getElem?_append_left hj] at hv; exact h4 j v hv
          · rw [List.getElem?_append_right (by omega)] at hv
            rw [h3] at hj
            rw [h3] at hv
            have := g2 (j - k * 4) v (by simpa using hv)
            rwa [show k * 4 + (j - k * 4) = j by omega] at this
    obtain ⟨ls, h1, h2, h3, h4⟩ := hch len (Nat.le_refl _)
    exact ⟨ls, h1.symm, by omega, hm, h2, rd_of_cells h4⟩
end
end Go.Proofs.Ytnbjoebdbbhbkaa
