/- The document's own sum, bit by bit: the walk through assayerref10.Of. -/
import Derived.Test.YthhijbnmljndeaaRows
import Derived.Test.YthhijbnmljndeaaBase
import Derived.Test.YthhijbnmljndeaaCrcMath
namespace Go.Proofs.Ythhijbnmljndeaa
open Go.RowKit

/-! ### The document's own sum, bit by bit -/
theorem ref_even {x : Nat} (hb : ¬ x % 2 = 1) : x / 2 = st x := by
  unfold st
  rw [show x % 2 = 0 by omega]; simp
theorem ref_odd {x : Nat} (h : x < 4294967296) (hb : x % 2 = 1) : bits BinOp.xor IntKind.u32 ((x : Int) / 2) 3988292384 = (st x : Nat) := by
  rw [show ((x : Int) / 2) = ((x / 2 : Nat) : Int) from by omega, show (3988292384 : Int) = ((3988292384 : Nat) : Int) from rfl, u32_xor_nat _ _ (by omega) (by omega)]
  unfold st
  rw [hb]
set_option maxHeartbeats 800000 in
theorem refCrc_any (w : World) (s : ByteArray) (hs : s.size ≤ 140737488355328) :
    Calls Try.prog 8 #[.string s] w fun e w' => e = .returned (.int .u32 (crc s.data.toList : Nat)) ∧ w = w' := by
  go_enter Try.func8, Try.ntmps8
  go_wp2
  go_loop [3, 4] (fun x i => ∃ k : Nat, k ≤ s.size ∧ i = .int .i64 k ∧ x = .int .u32 (crcF 4294967295 (s.data.toList.take k) : Nat)) (fun _ i => s.size - (intOf i).toNat)
  case atStart => exact ⟨0, by omega, rfl, rfl⟩
  case round =>
    obtain ⟨k, hk, rfl, rfl⟩ := hrel
    have hx := crcF_lt (x := 4294967295) (by omega) (s.data.toList.take k)
    by_cases hlt : k < s.size
    · have hts : s.data.toList.take (k + 1) = s.data.toList.take k ++ [s[k]] := by
        rw [List.take_succ_eq_append_getElem (by simpa using hlt)]; rfl
      have hstep : crcF 4294967295 (s.data.toList.take (k + 1)) = stn (crcF 4294967295 (s.data.toList.take k) ^^^ s[k].toNat) 8 := by rw [hts, crcF_snoc, crcB_eq]
      have HS := hid hstep
      clear hts hstep
      have hu := u8_lt s[k]
      have e1 := xor_walk hx (show s[k].toNat < 4294967296 by omega)
      have hy1 := xor_lt32 hx (show s[k].toNat < 4294967296 by omega)
      generalize hy : crcF 4294967295 (s.data.toList.take k) ^^^ s[k].toNat = y at *
      clear hy
      go_wp2
      go_loop [3, 5] (fun x j => ∃ m : Nat, m ≤ 8 ∧ j = .int .i64 m ∧ x = .int .u32 (stn y m : Nat)) (fun _ j => 8 - (intOf j).toNat)
      case atStart => exact ⟨0, by omega, rfl, rfl⟩
      case round =>
        obtain ⟨m, hm, rfl, rfl⟩ := hrel
        have hz := stn_lt hy1 m
        by_cases hm8 : m < 8
        · go_wp2
          · have ho : ((stn y m : Nat) : Int) % 2 = 1 := by simpa using ‹(((stn y m : Nat) : Int) % 2 == 1) = true›
            have e2 := ref_odd hz (by omega)
            go_round
            case rel => exact ⟨m + 1, by omega, by go_num, by rw [e2]; rfl⟩
            case measure => simp [intOf]; omega
          · have ho : ¬ ((stn y m : Nat) : Int) % 2 = 1 := by simpa using ‹(((stn y m : Nat) : Int) % 2 == 1) = false›
            have e2 := ref_even (x := stn y m) (by omega)
            go_round
            case rel => exact ⟨m + 1, by omega, by go_num, by show _ = Value.int _ ((st (stn y m) : Nat) : Int); rw [← e2]; go_num⟩
            case measure => simp [intOf]; omega
        · obtain rfl : m = 8 := by omega
          go_wp2
          go_round
          case rel => exact ⟨k + 1, by omega, by go_num, by rw [HS.out]⟩
          case measure => simp [intOf]; omega
    · obtain rfl : k = s.size := by omega
      have ht : s.data.toList.take s.size = s.data.toList := List.take_of_length_le (by simp)
      rw [ht] at hx ⊢
      clear ht
      have hE : (4294967295 : Int) - (crcF 4294967295 s.data.toList : Nat) = (crc s.data.toList : Nat) := by unfold crc; omega
      have HE := hid hE
      clear hE
      go_wp2
      go_ret
      exact ⟨ret_val (by rw [← HE.out]; rfl), rfl⟩
end Go.Proofs.Ythhijbnmljndeaa
