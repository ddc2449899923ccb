
/- From the row's list of variables to the walk's words: what sha's two tables hold; what an argument that is a hash reads as. -/
import Derived.Test.YtgaefejblmnklaaDoorRow
import Derived.Test.YtgaefejblmnklaaDoorShaH
import Derived.Deep.DeepHandedRow
import Derived.Lib.LaidTab
import Derived.Stop.LaidErr
import Derived.WideKeyArr2
namespace Go.Proofs.YtgaefejblmnklaaDoor
open Go.RowKit Go.ChangeShapes Go.WideShapes
set_option linter.unusedVariables false

theorem gBegin_ : Tryd.prog.globalNamed "assayer/sha.begin" = some 1 := by kernel_rfl
theorem gRoots_ : Tryd.prog.globalNamed "assayer/sha.roots" = some 2 := by kernel_rfl
theorem tBegin_ : (Tryd.prog.globals[1]?).map (·.type) = some 75 := by kernel_rfl
theorem tRoots_ : (Tryd.prog.globals[2]?).map (·.type) = some 83 := by kernel_rfl
theorem cells8_ : Tryd.prog.cellsOf 75 = 8 := by kernel_rfl
theorem cells64_ : Tryd.prog.cellsOf 83 = 64 := by kernel_rfl
theorem cells1_ : Tryd.prog.cellsOf 74 = 1 := by kernel_rfl
def ints (l : List Nat) : List Int := l.map fun (n : Nat) => (n : Int)
theorem tab_cells {W : World} {name : String} {g : Nat} {l : List Nat} (h : Lib.TabIs Tryd.prog W name .u32 (ints l)) (hg : Tryd.prog.globalNamed name = some g) : ∀ j v, (l.map cw)[j]? = some v → W.cell? ⟨g, 0 + j, none⟩ = some v := by
  intro j v hv
  have hj : j < l.length := by
    have := (List.getElem?_eq_some_iff.1 hv).1
    rwa [List.length_map] at this
  rw [Nat.zero_add, h.cell hg j (by simpa [ints] using hj), ← hv]
  simp [ints, cw, hj, List.getD]
abbrev laidL : List (String × DataW Unit) := [("assayer/sha.begin", Rows.laid_assayer_sha_begin), ("assayer/sha.roots", Rows.laid_assayer_sha_roots)]
def setCells (cs : Array Value) : Obj → Obj
  | .cells _ t fr => .cells cs t fr
  | o => o
theorem laid_of {W : World} (hH : laidMetH Tryd.prog laidL W) : Laid W := by
  have h : laidMet Tryd.prog laidL W := hH
  have h1 : Lib.TabIs Tryd.prog W "assayer/sha.begin" .u32 (ints beginL) := Lib.tabIs_of_head (rest := [("assayer/sha.roots", Rows.laid_assayer_sha_roots)]) gBegin_ tBegin_ Tryd.underlying75 Tryd.underlying74 cells1_ cells8_ h
  have h2 : Lib.TabIs Tryd.prog W "assayer/sha.roots" .u32 (ints rootL) := Lib.tabIs_of_head (rest := []) gRoots_ tRoots_ Tryd.underlying83 Tryd.underlying74 cells1_ cells64_ (laidMet.tail (P := Tryd.prog) (x := ("assayer/sha.begin", Rows.laid_assayer_sha_begin)) h)
  have c1 := tab_cells h1 gBegin_
  have c2 := tab_cells h2 gRoots_
  exact ⟨c1, c2, World.block_lt_of_cell? W _ (c1 0 (cw 1779033703) rfl), World.block_lt_of_cell? W _ (c2 0 (cw 1116352408) rfl)⟩
/-- A world for the witness. -/
noncomputable def laidWorld (os : Os) : World :=
  { World.holding Tryd.prog os ⟨#[], #[], []⟩ with heap := ((World.holding Tryd.prog os ⟨#[], #[], []⟩).heap.modify 1 (setCells (beginL.map cw).toArray)).modify 2 (setCells (rootL.map cw).toArray) }
/-- A hash as an argument. -/
theorem arrH : WideMaps.ArrKey Tryd.prog 23 5 32 := ⟨Tryd.underlying23, by kernel_rfl, by kernel_rfl, by kernel_rfl⟩
theorem open_hash {H : Type} {enc : TypeId × Value → H} {W : World} {base b0 : Nat} {sp : Nat → Bool} {held : Bool} {r : Reach} {v : Value} {d : DataW H} {ps : List MemPlace} (hw : Value.okWide Tryd.prog W r b0 23 v)
    (hd : DataW.Trod enc Tryd.prog W base sp held 23 v d ps) : ∃ h : List UInt8, h.length = 32 ∧ v = .agg (h.map cb).toArray := by
  obtain ⟨xs, rfl, hn⟩ := WideMaps.okWide_arr arrH hw
  obtain ⟨fuel, hf⟩ := hd
  cases fuel with
  | zero => simp [DataW.trod] at hf
  | succ m =>
    rw [DataW.trod_step] at hf
    unfold DataW.trodStep at hf
    simp only [arrH.hu, Value.cells] at hf
    rw [if_pos (by rw [arrH.size]; simpa using hn)] at hf
    simp only [Option.map_eq_some_iff] at hf
    obtain ⟨ys, hy, _⟩ := hf
    have each : ∀ i (hi : i < 32), ∃ a : UInt8, xs[i]'(by omega) = cb a := by
      intro i hi
      obtain ⟨b, _, hb⟩ := Lib.mapM_at hy i i (by simp [hi])
      rw [arrH.one] at hb
      obtain ⟨a, ea, _, wa⟩ := DataW.trod_int Tryd.underlying5 hb
      have hx : xs.toList[i]'(by simp; omega) = .int .u8 a := by
        have h0 : (xs.toList.drop (i * 1)).take 1 = [xs.toList[i]'(by simp; omega)] := by
          rw [Nat.mul_one, List.drop_eq_getElem_cons (by simp; omega)]
          simp
        rw [h0] at ea
        injection ea
      have hb := bounds_u8 wa
      refine ⟨UInt8.ofNat a.toNat, ?_⟩
      have : xs[i]'(by omega) = .int .u8 a := by simpa using hx
      rw [this]
      unfold cb
      rw [UInt8.toNat_ofNat']
      congr 1
      omega
    refine ⟨(List.range 32).map fun i => if h : i < 32 then (each i h).choose else 0, by simp, ?_⟩
    congr 1
    apply Array.ext
    · simp [hn]
    · intro i h1 h2
      have hi : i < 32 := by omega
      have := (each i hi).choose_spec
      simp [hi]
      exact this
end Go.Proofs.YtgaefejblmnklaaDoor
