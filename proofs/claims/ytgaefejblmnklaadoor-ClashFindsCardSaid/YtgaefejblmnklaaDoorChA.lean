
/- Chains: bits.Len64, Split. -/
import Derived.Test.YtgaefejblmnklaaDoorChMath
import Derived.Test.YtgaefejblmnklaaDoorShaH
import Derived.Lib.BitFns
import Derived.Lib.TrailingZeros
namespace Go.Proofs.YtgaefejblmnklaaDoor
open Go.RowKit
set_option linter.unusedVariables false
theorem tab_at (j : Nat) (h : j < Lib.len8tab.size) : (Lib.len8tab[j]).toNat = Lib.bitLen j := by
  have h2 : j < 256 := by rw [Lib.len8tab_size] at h; exact h
  have e := Lib.len8_eq ⟨j, h2⟩
  unfold Lib.len8 at e
  rw [Int.toNat_natCast, ByteArray.getElem?_lt' _ _ h, Option.getD_some] at e
  have e2 : Lib.bitLen (⟨j, h2⟩ : Fin 256).val = Lib.bitLen j := rfl
  omega
theorem len_fin {x : Int} {s j : Nat} (h0 : 0 ≤ x) (h1 : x ≤ 18446744073709551615) (hs : 2 ^ s ≤ x.toNat) (hj : j = x.toNat / 2 ^ s) (hb : j < 256) (hs2 : s ≤ 56) : wrap64 ((s : Int) + wrap64 ((Lib.bitLen j : Nat) : Int)) = ((Lib.bitLen x.toNat : Nat) : Int) := by
  have h2 := Lib.bitLen_shift s x.toNat hs (by omega)
  have h3 := Lib.bitLen_le j 8 (by decide) (by omega)
  rw [← hj] at h2
  simp only [wrap64]
  omega
theorem len_fin0 {x : Int} {j : Nat} (hj : j = x.toNat) (hb : j < 256) : wrap64 (wrap64 ((Lib.bitLen j : Nat) : Int)) = ((Lib.bitLen x.toNat : Nat) : Int) := by
  have h3 := Lib.bitLen_le j 8 (by decide) (by omega)
  subst hj
  simp only [wrap64]
  omega
set_option maxHeartbeats 4000000 in
set_option maxRecDepth 100000 in
theorem Len64_any (w : World) (x : Int) (h0 : 0 ≤ x) (h1 : x ≤ 18446744073709551615) :
    Calls Tryd.prog 34 #[.int .u64 x] w fun e w' => e = .returned (.int .i64 (Lib.bitLen x.toNat)) ∧ w' = w := by
  have hsz := Lib.len8tab_size
  go_enter Tryd.func34, Tryd.ntmps34
  go_wp2
  all_goals (go_ret; refine ⟨congrArg Ending.returned (congrArg (Value.int IntKind.i64) ?_), rfl⟩)
  all_goals rw [tab_at]
  all_goals first
    | (exact len_fin (s := 56) h0 h1 (by omega) (by omega) (by omega) (by decide))
    | (exact len_fin (s := 48) h0 h1 (by omega) (by omega) (by omega) (by decide))
    | (exact len_fin (s := 40) h0 h1 (by omega) (by omega) (by omega) (by decide))
    | (exact len_fin (s := 32) h0 h1 (by omega) (by omega) (by omega) (by decide))
    | (exact len_fin (s := 24) h0 h1 (by omega) (by omega) (by omega) (by decide))
    | (exact len_fin (s := 16) h0 h1 (by omega) (by omega) (by omega) (by decide))
    | (exact len_fin (s := 8) h0 h1 (by omega) (by omega) (by omega) (by decide))
    | (exact len_fin0 rfl (by omega))
theorem bitLen_log2 {x : Nat} (h : x ≠ 0) (h2 : x < 2 ^ 64) : Lib.bitLen x = Nat.log2 x + 1 := by
  have h3 := Nat.log2_self_le h
  have h4 := Nat.lt_log2_self (n := x)
  rw [Lib.bitLen_shift (Nat.log2 x) x h3 h2]
  have : x / 2 ^ Nat.log2 x = 1 := by
    rw [Nat.pow_succ] at h4
    rw [Nat.div_eq_iff (by omega)]
    omega
  rw [this]
  rfl
set_option maxHeartbeats 1000000 in
theorem Split_any (w : World) (n : Nat) (hn : n < 18446744073709551616) :
    Calls Tryd.prog 27 #[.int .u64 (n : Int)] w fun e w' => e = .returned (.int .u64 ((splitN n : Nat) : Int)) ∧ w' = w := by
  by_cases h2 : n < 2
  · have hs : splitN n = 0 := by unfold splitN; rw [if_pos h2]
    rw [hs]
    go_enter Tryd.func27, Tryd.ntmps27
    go_wp2
    go_ret
    exact ⟨rfl, rfl⟩
  · have hlog := bitLen_log2 (x := n - 1) (by omega) (by omega)
    have hle := Lib.bitLen_le (n - 1) 64 (by decide) (by omega)
    have hs : splitN n = 2 ^ Nat.log2 (n - 1) := by unfold splitN; rw [if_neg h2]
    rw [hs]
    have hsub : IntKind.u64.wrap ((n : Int) - 1) = ((n - 1 : Nat) : Int) := by simp only [IntKind.wrap, IntKind.bits, IntKind.signed]; simp; omega
    go_enter Tryd.func27, Tryd.ntmps27
    go_wp2_with fail
    refine (Len64_any w ((n - 1 : Nat) : Int) (by omega) (by omega)).mono ?_
    rintro e w1 ⟨rfl, rfl⟩
    rw [Int.toNat_natCast, hlog]
    obtain ⟨K, hK⟩ : ∃ K, K = Nat.log2 (n - 1) := ⟨_, rfl⟩
    rw [← hK] at hlog ⊢
    have HK := hid hK
    have hK63 : K ≤ 63 := by omega
    have hp : (2 : Nat) ^ K < 18446744073709551616 := Nat.lt_of_le_of_lt (Nat.pow_le_pow_right (by decide) hK63) (by decide)
    have hw1 : IntKind.i64.wrap (((K + 1 : Nat) : Int) - 1) = (K : Int) := by rw [wr_i64 _ (by omega) (by omega)]; omega
    clear hsub hlog hle hs hK
    have hw2 : IntKind.u64.wrap ((2 : Int) ^ K) = ((2 ^ K : Nat) : Int) := by
      have e : ((2 : Int) ^ K) = ((2 ^ K : Nat) : Int) := by rw [Int.natCast_pow]; rfl
      rw [e]
      generalize 2 ^ K = p at *
      simp only [IntKind.wrap, IntKind.bits, IntKind.signed]; simp; omega
    go_wp2
    go_ret
    exact ⟨by rw [← HK.out, Int.natCast_pow]; rfl, rfl⟩
end Go.Proofs.YtgaefejblmnklaaDoor
