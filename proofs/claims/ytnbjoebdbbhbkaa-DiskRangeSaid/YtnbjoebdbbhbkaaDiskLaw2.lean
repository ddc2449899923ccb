/- DiskRange: its walk. -/
import Derived.Test.YtnbjoebdbbhbkaaDiskLaw1
import Derived.OpenShut
namespace Go.Proofs.Ytnbjoebdbbhbkaa
open Go.RowKit
set_option linter.unusedVariables false

theorem zrow_rep (n : Nat) : (zrow n (.int .u8 0)).toList = (List.replicate n (0 : UInt8)).map cb := by simp [zrow, cb]
set_option maxRecDepth 100000 in
set_option maxHeartbeats 2000000 in
theorem DiskRange_walk (w : World) (n : Int) (hn : (Lit.int .u8 n).wf = true) (i : Int) (hi : (Lit.int .i64 i).wf = true) (lo : Int) (hlo : (Lit.int .u16 lo).wf = true) :
    Calls Try.prog 4 #[.int .u8 n, .int .i64 i, .int .u16 lo] w fun e w' => e = .returned (.bool true) ∧ Below w.heap.size w w' := by
  obtain ⟨n0, n1⟩ := bounds_u8 hn
  obtain ⟨l0, l1⟩ := bounds_u16 hlo
  clear hn hlo hi
  obtain ⟨nn, rfl⟩ := Int.eq_ofNat_of_zero_le n0
  obtain ⟨ln, rfl⟩ := Int.eq_ofNat_of_zero_le l0
  have hq : ((nn : Int)).tmod 50 = ((nn % 50 : Nat) : Int) := (Int.tmod_eq_emod_of_nonneg (by omega)).trans (by omega)
  have hq3 : nn % 50 < 50 := Nat.mod_lt _ (by omega)
  have hp : ((ln : Int)).tmod 300 = ((ln % 300 : Nat) : Int) := (Int.tmod_eq_emod_of_nonneg (by omega)).trans (by omega)
  have hp3 : ln % 300 < 300 := Nat.mod_lt _ (by omega)
  generalize nn % 50 = q at *
  generalize ln % 300 = m at *
  obtain ⟨l, hl, hz⟩ : ∃ l : List UInt8, l.length = m ∧ (zrow m (.int .u8 0)).toList = l.map cb := ⟨_, List.length_replicate, zrow_rep m⟩
  have hmk : ∀ w : World, (Instr.makeSlice 22 (.int .i64 (m : Int)) (.int .i64 (m : Int))).run Try.prog w = .ok (.slice (some ⟨w.heap.size, 0, none⟩) m m) (w.alloc (.cells (zrow m (.int .u8 0)) 5)) := run_mk1 elU8 .i64 .i64 m (by omega) (by omega)
  subst hl
  go_enter Try.func4, Try.ntmps4
  go_wp2_with fail
  refine (awake_any _).mono ?_
  rintro e w1 ⟨rfl, hb1⟩
  go_wp2_with fail
  rw [show ((q : Int) + 1) = ((q + 1 : Nat) : Int) by omega]
  refine (New_yes w1 (q + 1) (by omega) (by omega)).mono ?_
  rintro e w2 ⟨g, rfl, hd2, hb2⟩
  have hb12 := bx_trans hb1 hb2
  have hL : Lives (newD (q + 1)) (q + 1) 0 := .new
  generalize newD (q + 1) = D at *
  go_wp2_with fail
  refine (Len_any w2 hd2).mono ?_
  rintro e w3 ⟨rfl, rfl⟩
  rw [hL.n, show ((q + 1 : Nat) : Int) = (q : Int) + 1 by omega]
  have hd3 := hd2.below (bx_alloc (Below.refl _ w2) (.cells (zrow l.length (.int .u8 0)) 5))
  have hb3 : Below w.heap.size w (w2.alloc (.cells (zrow l.length (.int .u8 0)) 5)) := bx_alloc hb12 _
  have hrl : Rd (w2.alloc (.cells (zrow l.length (.int .u8 0)) 5)) (w2.alloc (.cells (zrow l.length (.int .u8 0)) 5)).heap.size (some ⟨w2.heap.size, 0, none⟩) (l.map cb) ∧ Out (w2.alloc (.cells (zrow l.length (.int .u8 0)) 5)) (some ⟨w2.heap.size, 0, none⟩) := ⟨rd_of_row (heap_new rfl) hz, out_row (heap_new rfl) (by decide) (by decide) 0⟩
  clear hd2
  by_cases hin : 0 ≤ i ∧ i < (q : Int) + 1
  · obtain ⟨hi0, hi1⟩ := hin
    have ht : thereB D i = true := by unfold thereB; rw [hL.n]; simp; omega
    by_cases hl : l.length = 256
    · obtain ⟨hWE, hWD⟩ := hL.wE (i := i) (by omega) (by omega) hl
      obtain ⟨hRE, _⟩ := (hL.push (i, l)).read (i := i) (by omega) (by omega)
      have hLL := (hL.push (i, l)).loose
      have e1 : ((l.length : Int) == 256) = true := by simp; omega
      have HL := hid hl
      clear hl

      go_wp2_with fail
      refine (Write_any _ hd3 (by have := hb2.size; rw [World.size_alloc]; omega) i (by unfold maxLen; omega) (Kp.of_out hrl.1 hrl.2) (Nat.le_refl _) (by rw [hL.loose]; omega)).mono ?_
      rintro e w4 ⟨rfl, hd4, hf4⟩
      rw [hWE]
      rw [hWD] at hd4
      go_wp2_with fail
      refine (Read_any w4 hd4 (by have h9 := hf4.below.size; have := hb2.size; rw [World.size_alloc] at h9; omega) i).mono ?_
      rintro e w5 ⟨v, rfl, hv, hb5⟩
      rw [hRE]
      have hd5 := hd4.below hb5
      have hbf : Below w.heap.size w w5 := bx_trans (hb3.trans (hf4.below.mono hb1.size)) hb5
      go_wp2_with fail
      refine (Loose_any w5 hd5).mono ?_
      rintro e w6 ⟨rfl, rfl⟩
      rw [hLL]
      go_wp2
      go_ret
      exact ⟨rfl, hbf⟩
    · obtain ⟨hWD, hWE⟩ := writeD_len hL.dead ht hl
      obtain ⟨hRE, _⟩ := hL.read (i := i) (by omega) (by omega)
      have hLL := hL.loose
      have e1 : ((l.length : Int) == 256) = false := by simp; omega
      clear hl

      go_wp2_with fail
      refine (Write_any _ hd3 (by have := hb2.size; rw [World.size_alloc]; omega) i (by unfold maxLen; omega) (Kp.of_out hrl.1 hrl.2) (Nat.le_refl _) (by rw [hL.loose]; omega)).mono ?_
      rintro e w4 ⟨rfl, hd4, hf4⟩
      rw [hWE]
      rw [hWD] at hd4
      go_wp2_with fail
      refine (Read_any w4 hd4 (by have h9 := hf4.below.size; have := hb2.size; rw [World.size_alloc] at h9; omega) i).mono ?_
      rintro e w5 ⟨v, rfl, hv, hb5⟩
      rw [hRE]
      have hd5 := hd4.below hb5
      have hbf : Below w.heap.size w w5 := bx_trans (hb3.trans (hf4.below.mono hb1.size)) hb5
      go_wp2_with fail
      refine (Loose_any w5 hd5).mono ?_
      rintro e w6 ⟨rfl, rfl⟩
      rw [hLL]
      go_wp2
      go_ret
      exact ⟨rfl, hbf⟩
  · have ht : thereB D i = false := by unfold thereB; rw [hL.n]; simp; omega
    obtain ⟨hWD, hWE⟩ := writeD_out hL.dead ht l
    have hRE : readE D i = 15 := by unfold readE; rw [hL.dead, ht]; rfl
    have hLL := hL.loose
    by_cases hi0 : 0 ≤ i
    · have hi1 : ¬ i < (q : Int) + 1 := fun h => hin ⟨hi0, h⟩
      clear hin

      go_wp2_with fail
      refine (Write_any _ hd3 (by have := hb2.size; rw [World.size_alloc]; omega) i (by unfold maxLen; omega) (Kp.of_out hrl.1 hrl.2) (Nat.le_refl _) (by rw [hL.loose]; omega)).mono ?_
      rintro e w4 ⟨rfl, hd4, hf4⟩
      rw [hWE]
      rw [hWD] at hd4
      go_wp2_with fail
      refine (Read_any w4 hd4 (by have h9 := hf4.below.size; have := hb2.size; rw [World.size_alloc] at h9; omega) i).mono ?_
      rintro e w5 ⟨v, rfl, hv, hb5⟩
      rw [hRE]
      have hd5 := hd4.below hb5
      have hbf : Below w.heap.size w w5 := bx_trans (hb3.trans (hf4.below.mono hb1.size)) hb5
      go_wp2_with fail
      refine (Loose_any w5 hd5).mono ?_
      rintro e w6 ⟨rfl, rfl⟩
      rw [hLL]
      go_wp2
      go_ret
      exact ⟨rfl, hbf⟩
    · clear hin

      go_wp2_with fail
      refine (Write_any _ hd3 (by have := hb2.size; rw [World.size_alloc]; omega) i (by unfold maxLen; omega) (Kp.of_out hrl.1 hrl.2) (Nat.le_refl _) (by rw [hL.loose]; omega)).mono ?_
      rintro e w4 ⟨rfl, hd4, hf4⟩
      rw [hWE]
      rw [hWD] at hd4
      go_wp2_with fail
      refine (Read_any w4 hd4 (by have h9 := hf4.below.size; have := hb2.size; rw [World.size_alloc] at h9; omega) i).mono ?_
      rintro e w5 ⟨v, rfl, hv, hb5⟩
      rw [hRE]
      have hd5 := hd4.below hb5
      have hbf : Below w.heap.size w w5 := bx_trans (hb3.trans (hf4.below.mono hb1.size)) hb5
      go_wp2_with fail
      refine (Loose_any w5 hd5).mono ?_
      rintro e w6 ⟨rfl, rfl⟩
      rw [hLL]
      go_wp2
      go_ret
      exact ⟨rfl, hbf⟩
end Go.Proofs.Ytnbjoebdbbhbkaa
