
/- awake. -/
import Derived.Test.YtnbjoebdbbhbkaaDiskFull
namespace Go.Proofs.Ytnbjoebdbbhbkaa
open Go.RowKit
set_option linter.unusedVariables false

theorem full_out {w : World} {g : Nat} {l : List UInt8} (h : Blk w g 5 ((fullX l).map cb).toArray) (odd : Bool) : Rd w w.heap.size (some ⟨g, 0, none⟩) ((fullR l odd).map cb) ∧ Out w (some ⟨g, 0, none⟩) := by
  constructor
  · unfold fullR
    split
    · rw [List.map_take]
      exact (rd_of_row h rfl).take _
    · exact rd_of_row h rfl
  · exact out_row h (by decide) (by decide) 0
theorem fullR_le (l : List UInt8) (odd : Bool) : (fullR l odd).length ≤ 256 := by unfold fullR; split <;> simp [fullX_length]
theorem RdO.cell {w : World} {v : Value} {l : List UInt8} (h : RdO w v l) : ∃ A c, v = .slice A l.length c ∧ ∀ k (hk : k < l.length), ∃ b off, A = some ⟨b, off, none⟩ ∧ w.cell? ⟨b, off + k, none⟩ = some (.int .u8 (l[k].toNat : Int)) := by
  obtain ⟨A, c, h1, h2, h3, h4⟩ := h
  refine ⟨A, c, h1, fun k hk => ?_⟩
  obtain ⟨b, off, rfl, _, hc⟩ := h3.at_ (k := k) (by simpa using hk)
  exact ⟨b, off, rfl, hc k _ (by simp [hk, cb])⟩
/-- A slice literal of bytes that was just laid. -/
theorem lit_rd {w : World} {l : List UInt8} : Rd (w.alloc (.cells (l.map cb).toArray 5)) (w.heap.size + 1) (some ⟨w.heap.size, 0, none⟩) (l.map cb) ∧ Out (w.alloc (.cells (l.map cb).toArray 5)) (some ⟨w.heap.size, 0, none⟩) := by
  constructor
  · have := rd_of_row (w := w.alloc (.cells (l.map cb).toArray 5)) (heap_new rfl) (xs := l.map cb) rfl
    rwa [World.size_alloc] at this
  · exact out_row (heap_new rfl) (by decide) (by decide) 0
theorem newD_ok {n : Nat} (h : n ≤ 65536) : (newD n).Ok := ⟨h, (fun k l h => (by cases h)), (fun x hx => (by cases hx)), (by show 0 ≤ 1000000; omega), (by show (-1 : Int) ≤ -1; omega), (by show (-1 : Int) ≤ _; omega)⟩
def D1 : DS := { newD 2 with loose := [(1, fullX [7])] }
theorem w1E : writeE (newD 2) 1 (fullX [7]) = 0 := by simp [writeE, newD, thereB, fullX_length, countE]
theorem w1D : writeD (newD 2) 1 (fullX [7]) = D1 := by simp [writeD, newD, thereB, fullX_length, countE, countD, D1]
theorem r1E : readE D1 1 = 0 := by simp [readE, D1, newD, thereB]
theorem r1V : readV D1 1 = fullX [7] := by
  unfold readV
  rw [r1E, if_pos rfl]
  simp [readAt, readL, D1]
theorem r2E : readE (crashD D1 [3]) 1 = 0 := by simp [readE, crashD, D1, newD, thereB]
theorem r2V : readV (crashD D1 [3]) 1 = mixB (fullX [7]) zeros 3 := by
  unfold readV
  rw [r2E, if_pos rfl]
  simp [readAt, readL, goodAt, crashD, D1, newD, crashG, crash1, putG, frontN]
theorem full7_get (k : Nat) (h : k < (fullX [7]).length) : (fullX [7])[k] = 7 := by
  rw [fullX_get]
  simp [Nat.mod_one]
theorem mix_len : (mixB (fullX [7]) zeros 3).length = 256 := mixB_length (fullX_length _) zeros_length (by omega)
theorem mixB_lt {l old : List UInt8} {n k : Nat} (hk : k < n) (hl : k < l.length) (h : k < (mixB l old n).length) : (mixB l old n)[k] = l[k] := by
  simp only [mixB]
  rw [List.getElem_append_left (by rw [List.length_take]; omega), List.getElem_take]
theorem mixB_ge {l old : List UInt8} {n k : Nat} (hn : n ≤ l.length) (hk : n ≤ k) (ho : k < old.length) (h : k < (mixB l old n).length) : (mixB l old n)[k] = old[k] := by
  simp only [mixB]
  rw [List.getElem_append_right (by rw [List.length_take]; omega), List.getElem_drop]
  congr 1
  rw [List.length_take]
  omega
theorem mix2 (h : 2 < (mixB (fullX [7]) zeros 3).length) : (mixB (fullX [7]) zeros 3)[2] = 7 := by
  rw [mixB_lt (by omega) (by rw [fullX_length]; omega), full7_get]
theorem mix3 (h : 3 < (mixB (fullX [7]) zeros 3).length) : (mixB (fullX [7]) zeros 3)[3] = 0 := by
  rw [mixB_ge (by rw [fullX_length]; omega) (by omega) (by rw [zeros_length]; omega)]
  exact List.getElem_replicate _
set_option maxRecDepth 100000 in
set_option maxHeartbeats 2000000 in
theorem awake_any (w : World) : Calls Try.prog 9 #[] w fun e w' => e = .returned (.bool true) ∧ Below w.heap.size w w' := by
  go_enter Try.func9, Try.ntmps9
  go_wp2_with fail
  refine (New_yes w 2 (by omega) (by omega)).mono ?_
  rintro e w1 ⟨g, rfl, hd1, hb1⟩
  have hL1 := lit_rd (w := w1) (l := [7])
  go_wp2_with fail
  refine (full_any _ (l := [7]) hL1.1 (by simp) (by simp [maxLen]) false).mono ?_
  rintro e w2 ⟨gf, rfl, hgf, hblkf, hb2⟩
  have hb12 : Below w1.heap.size w1 w2 := bx_trans (bx_alloc (Below.refl _ _) _) hb2
  have hd2 := hd1.below hb12
  obtain ⟨hrf, hof⟩ := full_out hblkf false
  have hlf : (fullR [7] false).length = 256 := fullX_length _
  have hww2 : Below w.heap.size w w2 := bx_trans hb1 hb12
  go_wp2_with fail
  refine (Write_any w2 hd2 hww2.size 1 (by rw [hlf]; decide) (Kp.of_out hrf hof) (Nat.le_refl _) (by simp [newD])).mono ?_
  rintro e w3 ⟨rfl, hd3, hf3⟩
  rw [show fullR [7] false = fullX [7] from rfl] at hd3
  rw [show fullR [7] false = fullX [7] from rfl, w1E]
  rw [w1D] at hd3
  clear hd1 hd2 hrf hof hblkf hL1
  go_wp2_with fail
  refine (Read_any w3 hd3 (by have := hf3.below.size; have := hww2.size; omega) 1).mono ?_
  rintro e w4 ⟨va, rfl, hva, hb4⟩
  rw [r1E]
  rw [r1V] at hva
  have hd4 := hd3.below hb4
  clear hd3
  have hL2 := lit_rd (w := w4) (l := [3])
  have hd5 := hd4.below (bx_alloc (Below.refl _ w4) (.cells ([3].map cb).toArray 5))
  have hva5 := hva.below (bx_alloc (Below.refl _ w4) (.cells ([3].map cb).toArray 5))
  go_wp2_with fail
  refine (Crash_any _ hd5 (front := [3]) (Kp.of_out hL2.1 hL2.2) (by simp) (by simp [maxLen])).mono ?_
  rintro e w6 ⟨rfl, hd6, hf6⟩
  have hva6 := hva5.dfr hf6
  clear hd5 hd4 hva5 hva hL2
  go_wp2_with fail
  refine (Read_any w6 hd6 (by have := hf6.below.size; have := hb4.size; have := hf3.below.size; have := hww2.size; simp at *; omega) 1).mono ?_
  rintro e w7 ⟨vb, rfl, hvb, hb7⟩
  rw [r2E]
  rw [r2V] at hvb
  have hd7 := hd6.below hb7
  have hva7 := hva6.below hb7
  obtain ⟨Aa, ca, rfl, hca⟩ := hva7.cell
  obtain ⟨Ab, cb_, rfl, hcb⟩ := hvb.cell
  obtain ⟨ba, oa, rfl, ha255⟩ := hca 255 (by rw [fullX_length]; omega)
  obtain ⟨bb, ob, rfl, hb2'⟩ := hcb 2 (by rw [mix_len]; omega)
  obtain ⟨_, _, heq, hb3'⟩ := hcb 3 (by rw [mix_len]; omega)
  injection heq with heq
  injection heq with heq1 heq2
  subst heq1 heq2
  rw [full7_get] at ha255
  rw [mix2] at hb2'
  rw [mix3] at hb3'
  rw [fullX_length, mix_len]
  clear hca hcb hvb hva7 hva6 hd6
  have hwf : Below w.heap.size w w7 := by
    have h4 := bx_alloc (Below.refl w4.heap.size w4) (.cells ([3].map cb).toArray 5)
    have hs2 := hww2.size
    have hs3 := hf3.below.size
    have hs4 := hb4.size
    have hs5 := h4.size
    have hs6 := hf6.below.size
    exact ((((hww2.trans hf3.below).trans (hb4.mono (by omega))).trans (h4.mono (by omega))).trans hf6.below).trans (hb7.mono (by omega))
  go_wp2_with fail
  refine (Loose_any w7 hd7).mono ?_
  rintro e w8 ⟨rfl, rfl⟩
  rw [show (crashD D1 [3]).loose.length = 0 from rfl]
  go_wp2
  go_ret
  exact ⟨rfl, hwf⟩
end Go.Proofs.Ytnbjoebdbbhbkaa
