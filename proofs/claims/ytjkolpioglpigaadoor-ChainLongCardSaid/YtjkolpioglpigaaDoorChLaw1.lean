
/- ChainLong: its walk. -/
import Derived.Test.YtjkolpioglpigaaDoorChM
import Derived.OpenShut
namespace Go.Proofs.YtjkolpioglpigaaDoor
open Go.RowKit
set_option linter.unusedVariables false
theorem steps_div {m n c : Nat} (h1 : 1 ≤ n) (h : (n - 1) / 2 ^ c = 0) : (steps m n).length ≤ c := by
  have hp := pow_one_le c
  have := (Nat.div_eq_zero_iff).1 h
  exact steps_len c n m (by omega)
set_option maxRecDepth 10000 in
set_option maxHeartbeats 1000000 in
theorem ChainLong_walk (w : World) (hL : LaidC w) (m0 : Int) (hm0 : (Lit.int .u64 m0).wf = true) (n0 : Int) (hn0 : (Lit.int .u64 n0).wf = true) :
    Calls Tryd.prog 6 #[.int .u64 m0, .int .u64 n0] w fun e w' => e = .returned (.bool true) ∧ Below w.heap.size w w' := by
  have hbm := bounds_u64 hm0
  have hbn := bounds_u64 hn0
  obtain ⟨m, rfl⟩ := Int.eq_ofNat_of_zero_le hbm.1
  obtain ⟨n, rfl⟩ := Int.eq_ofNat_of_zero_le hbn.1
  have hm : m < 18446744073709551616 := by omega
  have hn : n < 18446744073709551616 := by omega
  clear hm0 hn0 hbm hbn
  have HL := hid hL
  clear hL
  have HLG := hid (fun w' => Long_any w' m n hm hn)
  have hno : m < 1 ∨ n ≤ m → longN m n = 0 := by
    intro h
    rcases h with h | h
    · exact longN_no (.inl h)
    · rcases Nat.eq_zero_or_pos m with h0 | h0
      · exact longN_no (.inl (by omega))
      · rcases Nat.lt_or_ge n m with h1 | h1
        · exact longN_no (.inr h1)
        · rw [show n = m by omega, longN_eq (by omega) (Nat.le_refl _), steps_no (by omega), whole_no (by omega)]; rfl
  have HNO := hid hno
  clear hno
  go_enter Tryd.func6, Tryd.ntmps6
  go_wp2_with fail
  refine (chAwake w HL.out).mono ?_
  rintro e w1 ⟨rfl, hb1⟩
  go_wp2_with fail
  refine (HLG.out w1).mono ?_
  rintro e w2 ⟨rfl, hb2⟩
  have hb02 := bx_trans hb1 hb2
  clear hb1 hb2 HLG
  by_cases h1 : m < 1
  · rw [HNO.out (.inl h1)]
    go_wp2
    go_ret
    exact ⟨rfl, hb02⟩
  by_cases h2 : n ≤ m
  · rw [HNO.out (.inr h2)]
    go_wp2
    go_ret
    exact ⟨rfl, hb02⟩
  have h3 : 1 ≤ m := by omega
  have h4 : m < n := by omega
  have hst := steps_pos h3 h4
  have hlo := longN_eq h3 (Nat.le_of_lt h4)
  have hsd := fun c => steps_div (m := m) (n := n) (c := c) (by omega)
  have hand := and_u64 h3 hm
  have haw := and_whole h3 h4
  have hl64 := longN_le h3 (Nat.le_of_lt h4) hn
  have hl1 : 1 ≤ longN m n := by rw [hlo]; omega
  have HSD := hid hsd
  have HLO := hid hlo
  obtain ⟨L, hLd⟩ : ∃ L, L = longN m n := ⟨_, rfl⟩
  obtain ⟨z, hz⟩ : ∃ z, z = m &&& (m - 1) := ⟨_, rfl⟩
  rw [← hLd] at HLO hl64 hl1 ⊢
  rw [← hz] at hand haw
  have HAW := hid haw
  clear hLd hz hsd hlo haw HNO
  go_wp2
  go_loop [7, 8] (fun v7 v8 => ∃ c : Nat, c ≤ 64 ∧ v7 = .int .i64 (c : Int) ∧ v8 = .int .u64 (((n - 1) / 2 ^ c : Nat) : Int)) (fun _ v8 => (intOf v8).toNat)
  case atStart => exact ⟨0, by omega, rfl, by simp; omega⟩
  case round =>
    obtain ⟨c, hc, rfl, rfl⟩ := hrel
    by_cases hx : (n - 1) / 2 ^ c = 0
    · have hsl := HSD.out c hx
      rw [hx]
      clear hx
      cases hwh : wholeN m n with
      | true =>
        have hLc : L ≤ c := by rw [HLO.out, hwh]; simpa using hsl
        have hz0 : z = 0 := by
          have := HAW.out
          rw [hwh] at this
          rw [this]
        subst hz0
        clear hwh hsl
        have k1 : (1 : Int) ≤ (L : Int) := by omega
        have k2 : (L : Int) ≤ (c : Int) + 1 := by omega
        go_wp2
        go_ret
        exact ⟨rfl, hb02⟩
      | false =>
        have hLc : L ≤ c + 1 := by rw [HLO.out, hwh]; simpa using hsl
        have hz0 : ((z : Int) == 0) = false := by
          have := HAW.out
          rw [hwh] at this
          simpa using this
        have hz1 : ((z : Int) != 0) = true := by rw [bne, hz0]; rfl
        clear hwh hsl
        have k1 : (1 : Int) ≤ (L : Int) := by omega
        have k2 : (L : Int) ≤ (c : Int) + 1 := by omega
        go_wp2
        go_ret
        exact ⟨rfl, hb02⟩
    · have hp := Nat.pos_of_ne_zero hx
      have hc64 : c < 64 := by
        rcases Nat.lt_or_ge c 64 with h | h
        · exact h
        · exfalso
          have h64 : (2 : Nat) ^ 64 ≤ 2 ^ c := Nat.pow_le_pow_right (by decide) h
          exact hx (Nat.div_eq_of_lt (by omega))
      have hlt : (n - 1) / 2 ^ c < 18446744073709551616 := Nat.lt_of_le_of_lt (Nat.div_le_self _ _) (by omega)
      have hnx : (n - 1) / 2 ^ (c + 1) = (n - 1) / 2 ^ c / 2 := by rw [Nat.div_div_eq_div_mul, Nat.pow_succ]
      have HNX := hid hnx
      clear hnx hx
      generalize (n - 1) / 2 ^ c = x at *
      go_wp2
      go_round
      case rel => exact ⟨c + 1, by omega, by go_num, by rw [HNX.out]; simp⟩
      case measure => simp [intOf]; omega
end Go.Proofs.YtjkolpioglpigaaDoor
