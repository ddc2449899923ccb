
/- From the row's data to the walk's words: one key. -/
import Derived.Test.YtjkolpioglpigaaDoorRowL
import Derived.Test.YtjkolpioglpigaaDoorChH
import Derived.ChangeSame
namespace Go.Proofs.YtjkolpioglpigaaDoor
open Go.RowKit Go.ChangeShapes Go.WideShapes Go.Deep
set_option linter.unusedVariables false
section
variable {H : Type} {enc : TypeId × Value → H} {w : World} {spare : Nat → Bool} {held : Bool}
theorem open_key1 {base b0 : Nat} {r : Reach} {v : Value} {d : DataW H} {ps : List MemPlace} (hw : Value.okWide Tryd.prog w r b0 39 v)
    (hd : DataW.Trod enc Tryd.prog w base spare held 39 v d ps) : ∃ (m : Nat) (h : List UInt8), m < 18446744073709551616 ∧ h.length = 32 ∧ v = .agg (kcell m h).toArray := by
  obtain ⟨xs, rfl, hn⟩ := okWide_struct Tryd.underlying39 hw
  rw [show Tryd.prog.cellsOf 39 = 33 by kernel_rfl] at hn
  obtain ⟨fuel, hf⟩ := hd
  obtain ⟨cs, hcs⟩ : ∃ cs, cs = xs.toList := ⟨_, rfl⟩
  have hl : cs.length = 33 := by rw [hcs]; simpa using hn
  change DataW.trod enc Tryd.prog w base spare held fuel 39 xs.toList = some _ at hf
  rw [← hcs] at hf
  have hx : xs = cs.toArray := by rw [hcs]
  subst hx
  obtain ⟨y1, y2, m, _, _, h1, h2⟩ := trod_struct2 Tryd.underlying39 hf
  simp only [show Tryd.prog.cellsOf 23 = 1 by kernel_rfl, show Tryd.prog.cellsOf 37 = 32 by kernel_rfl] at h1 h2
  obtain ⟨n, e1, _, w1⟩ := DataW.trod_int Tryd.underlying23 h1
  obtain ⟨h, hh, e2⟩ := hash_cells (by simp; omega) h2
  have hb := bounds_u64 w1
  refine ⟨n.toNat, h, by omega, hh, ?_⟩
  have e3 : cs = (cs.drop 0).take 1 ++ (cs.drop 1).take 32 := by
    rw [List.drop_zero, List.take_of_length_le (l := cs.drop 1) (by simp; omega), List.take_append_drop]
  rw [e3, e1, e2]
  unfold kcell
  rw [Int.toNat_of_nonneg hb.1]
  rfl
end
end Go.Proofs.YtjkolpioglpigaaDoor
