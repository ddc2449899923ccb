
/- From the row's data to the walk's words: a hash, a slice of numbers, a slice of hashes. -/
import Derived.Test.YtgaefejblmnklaaDoorRow
import Derived.WideKeyArr2
import Derived.Lib.LaidTab
namespace Go.Proofs.YtgaefejblmnklaaDoor
open Go.RowKit Go.ChangeShapes Go.WideShapes Go.Deep
set_option linter.unusedVariables false
def nb (n : Nat) : Value := .int .u64 (n : Int)
section
variable {H : Type} {enc : TypeId × Value → H} {w : World} {spare : Nat → Bool} {held : Bool}
theorem open_u64s {P : Program} {t e : TypeId} {base fuel : Nat} {A : Option Addr} {len cap : Nat} {x : DataW H × List MemPlace} (ht : P.underlying t = some (.slice e)) (he : P.underlying e = some (.int .u64)) (hc : P.cellsOf e = 1)
    (h : DataW.trod enc P w base spare held fuel t [.slice A len cap] = some x) : ∃ l : List Nat, len = l.length ∧ l.length ≤ cap ∧ cap ≤ maxLen ∧ (∀ n ∈ l, n < 18446744073709551616) ∧ Rd w w.heap.size A (l.map nb) := by
  rcases open_ints ht he hc h with ⟨hcs, _⟩ | ⟨a, l, c, zs, hcs, _, hl, hm, hz, _, hcell, hwz⟩
  · simp at hcs
    obtain ⟨rfl, rfl, rfl⟩ := hcs
    exact ⟨[], rfl, Nat.le_refl _, by unfold maxLen; omega, by simp, .inl rfl⟩
  · simp at hcs
    obtain ⟨rfl, rfl, rfl⟩ := hcs
    have hzl : len ≤ zs.length := by rw [hz]; split <;> omega
    refine ⟨(zs.take len).map Int.toNat, by simp; omega, by simp; omega, hm, ?_, rd_of_cells fun i v hv => ?_⟩
    · intro n hn
      simp only [List.mem_map] at hn
      obtain ⟨z, hz1, rfl⟩ := hn
      have := bounds_u64 (hwz z (List.mem_of_mem_take hz1))
      omega
    · have hi : i < len := by
        have := (List.getElem?_eq_some_iff.1 hv).1
        simp at this
        omega
      have hiz : i < zs.length := by omega
      rw [hcell i hiz]
      have hb := bounds_u64 (hwz zs[i] (List.getElem_mem hiz))
      simp [hi, hiz, nb] at hv
      subst hv
      simp [hiz]
      omega
theorem arrH1 : WideMaps.ArrKey Tryd.prog 23 5 32 := ⟨Tryd.underlying23, by kernel_rfl, by kernel_rfl, by kernel_rfl⟩
theorem hash_cells {base fuel : Nat} {cs : List Value} {x : DataW H × List MemPlace} (hn : cs.length = 32) (hf : DataW.trod enc Tryd.prog w base spare held fuel 23 cs = some x) : ∃ h : List UInt8, h.length = 32 ∧ cs = h.map cb := by
  cases fuel with
  | zero => simp [DataW.trod] at hf
  | succ m =>
    rw [DataW.trod_step] at hf
    unfold DataW.trodStep at hf
    simp only [arrH1.hu] at hf
    rw [if_pos (by rw [arrH1.size]; simpa using hn)] at hf
    simp only [Option.map_eq_some_iff] at hf
    obtain ⟨ys, hy, _⟩ := hf
    have each : ∀ i (hi : i < 32), ∃ a : UInt8, cs[i]'(by omega) = cb a := by
      intro i hi
      obtain ⟨b, _, hb⟩ := Lib.mapM_at hy i i (by simp [hi])
      rw [arrH1.one] at hb
      obtain ⟨a, ea, _, wa⟩ := DataW.trod_int Tryd.underlying5 hb
      have hx : cs[i]'(by omega) = .int .u8 a := by
        have h0 : (cs.drop (i * 1)).take 1 = [cs[i]'(by omega)] := by
          rw [Nat.mul_one, List.drop_eq_getElem_cons (by omega)]
          rfl
        rw [h0] at ea
        injection ea
      have hb := bounds_u8 wa
      refine ⟨UInt8.ofNat a.toNat, ?_⟩
      rw [hx]
      unfold cb
      rw [UInt8.toNat_ofNat']
      congr 1
      omega
    refine ⟨(List.range 32).map fun i => if h : i < 32 then (each i h).choose else 0, by simp, ?_⟩
    apply List.ext_getElem
    · simp [hn]
    · intro i h1 h2
      have hi : i < 32 := by omega
      have := (each i hi).choose_spec
      simp [hi]
      exact this
theorem open_hash1 {base b0 : Nat} {r : Reach} {v : Value} {d : DataW H} {ps : List MemPlace} (hw : Value.okWide Tryd.prog w r b0 23 v)
    (hd : DataW.Trod enc Tryd.prog w base spare held 23 v d ps) : ∃ h : List UInt8, h.length = 32 ∧ v = .agg (h.map cb).toArray := by
  obtain ⟨xs, rfl, hn⟩ := WideMaps.okWide_arr arrH1 hw
  obtain ⟨fuel, hf⟩ := hd
  obtain ⟨h, h1, h2⟩ := hash_cells (cs := xs.toList) (by simpa using hn) hf
  exact ⟨h, h1, by rw [← h2]⟩
theorem open_hashes {t : TypeId} {base fuel : Nat} {A : Option Addr} {len cap : Nat} {x : DataW H × List MemPlace} (ht : Tryd.prog.underlying t = some (.slice 23))
    (h : DataW.trod enc Tryd.prog w base spare held fuel t [.slice A len cap] = some x) : ∃ ls : List (List UInt8), len = ls.length ∧ ls.length ≤ cap ∧ cap ≤ maxLen ∧ (∀ l ∈ ls, l.length = 32) ∧ Rd w w.heap.size A (ls.flatten.map cb) := by
  rcases open_slice ht h with ⟨hcs, _⟩ | ⟨a, l, c, m, n, D, Pl, hcs, _, hl, hm, hmm, _, hx⟩
  · simp at hcs
    obtain ⟨rfl, rfl, rfl⟩ := hcs
    exact ⟨[], rfl, Nat.le_refl _, by unfold maxLen; omega, by simp, .inl rfl⟩
  · simp at hcs
    obtain ⟨rfl, rfl, rfl⟩ := hcs
    have hlm : len ≤ m := by rw [hmm]; split <;> omega
    have each : ∀ i, i < len → ∃ r : List UInt8, r.length = 32 ∧ ∀ k v, (r.map cb)[k]? = some v → w.cell? (a.add (i * 32 + k)) = some v := by
      intro i hi
      obtain ⟨cs', h1, h2⟩ := hx i (by omega)
      rw [arrH1.size] at h1
      obtain ⟨_, h4, h5⟩ := World.cells?_some h1
      obtain ⟨r, hr, rfl⟩ := hash_cells h4 h2
      refine ⟨r, hr, fun k v hv => ?_⟩
      have hk : k < 32 := by
        have := (List.getElem?_eq_some_iff.1 hv).1
        simp at this
        omega
      have := h5 k hk
      rw [add_add] at this
      rw [this]
      exact hv
    have hch : ∀ k, k ≤ len → ∃ ls : List (List UInt8), ls.length = k ∧ (∀ r ∈ ls, r.length = 32) ∧ ls.flatten.length = k * 32 ∧ ∀ j v, (ls.flatten.map cb)[j]? = some v → w.cell? (a.add j) = some v := by
      intro k
      induction k with
      | zero => intro _; exact ⟨[], rfl, by simp, rfl, by simp⟩
      | succ k ih =>
        intro hk
        obtain ⟨ls, h1, h2, h3, h4⟩ := ih (by omega)
        obtain ⟨r, g1, g2⟩ := each k (by omega)
        refine ⟨ls ++ [r], by simp [h1], ?_, ?_, fun j v hv => ?_⟩
        · intro s hs
          rcases List.mem_append.1 hs with hs | hs
          · exact h2 s hs
          · simp at hs; subst hs; omega
        · rw [List.flatten_append, List.length_append, h3]; simp [g1]; omega
        · rw [List.flatten_append, List.map_append] at hv
          by_cases hj : j < (ls.flatten.map cb).length
          · rw [List.getElem?_append_left hj] at hv; exact h4 j v hv
          · rw [List.getElem?_append_right (by omega)] at hv
            rw [List.length_map, h3] at hj
            rw [List.length_map, h3] at hv
            have := g2 (j - k * 32) v (by simpa using hv)
            rwa [show k * 32 + (j - k * 32) = j by omega] at this
    obtain ⟨ls, h1, h2, h3, h4⟩ := hch len (Nat.le_refl _)
    exact ⟨ls, h1.symm, by omega, hm, h2, rd_of_cells h4⟩
end
end Go.Proofs.YtgaefejblmnklaaDoor
