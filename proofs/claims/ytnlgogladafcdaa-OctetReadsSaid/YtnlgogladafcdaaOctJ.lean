/- OctetStays: its walk. -/
import Derived.Test.YtnlgogladafcdaaOctI
namespace Go.Proofs.Ytnlgogladafcdaa
open Go.RowKit
set_option linter.unusedVariables false
theorem stuck_take {s : RS} (h : s.e ≠ 0) (n : Nat) : takeV s n = [] ∧ takeS s n = s := by
  unfold takeV takeS
  rw [if_neg h, if_neg h]
  exact ⟨rfl, rfl⟩
theorem stuck_arg {s : RS} (h : s.e ≠ 0) : argS s = s := by unfold argS; rw [if_neg h]
theorem stuck_num {s : RS} (h : s.e ≠ 0) (n : Int) : numV s n = 0 ∧ numS s n = s := by
  unfold numV numS
  split
  · rw [(stuck_take h _).1, (stuck_take h _).2]; exact ⟨rfl, rfl⟩
  · exact ⟨rfl, stuck_arg h⟩
theorem stuck_raw {s : RS} (h : s.e ≠ 0) (n : Int) : rawV s n = [] ∧ rawS s n = s := by
  unfold rawV rawS
  split
  · exact ⟨rfl, stuck_arg h⟩
  · exact stuck_take h _
theorem stuck_bytes {s : RS} (h : s.e ≠ 0) (n : Int) : bytesV s n = [] ∧ bytesS s n = s := by
  obtain ⟨h1, h2⟩ := bytes_err (s := s) (most := n) (by rw [(stuck_num h 2).2]; exact h)
  rw [h1, h2, (stuck_num h 2).2]
  exact ⟨rfl, rfl⟩
theorem stuck_end {s : RS} (h : s.e ≠ 0) : endE s = s.e := by unfold endE; rw [if_pos h]
theorem rawS_len (s : RS) (n : Int) : (rawS s n).b.length ≤ s.b.length := by
  unfold rawS
  split
  · rw [argS_b]; exact Nat.le_refl _
  · exact takeS_len _ _
theorem bytesS_len (s : RS) (n : Int) : (bytesS s n).b.length ≤ s.b.length := by
  have h1 := numS_len s 2
  unfold bytesS
  split
  · exact h1
  · split
    · exact h1
    · exact Nat.le_trans (rawS_len _ _) h1
theorem and3_u8 (x : UInt8) : bits BinOp.and IntKind.u8 (x.toNat : Int) 3 = ((x.toNat % 4 : Nat) : Int) := by
  rw [show (3 : Int) = ((3 : Nat) : Int) from rfl, u8_and_nat _ _ x.toNat_lt (by omega)]
  congr 1
  exact Nat.and_two_pow_sub_one_eq_mod x.toNat 2
set_option maxRecDepth 100000 in
set_option maxHeartbeats 2000000 in
theorem OctetStays_walk (w : World) (A0 : Option Addr) (c0 : Nat) (l0 : List UInt8) (hc0 : l0.length ≤ c0) (hm0 : c0 ≤ maxLen) (hr0 : Rd w w.heap.size A0 (l0.map cb))
    (A1 : Option Addr) (c1 : Nat) (l1 : List UInt8) (hc1 : l1.length ≤ c1) (hm1 : c1 ≤ maxLen) (hr1 : Rd w w.heap.size A1 (l1.map cb)) :
    Calls Try.prog 6 #[.slice A0 l0.length c0, .slice A1 l1.length c1] w fun e w' => e = .returned (.bool true) ∧ Below w.heap.size w w' := by
  unfold maxLen at hm0 hm1
  have HR1 := hid hr1
  clear hr1
  go_enter Try.func6, Try.ntmps6
  go_wp2_with fail
  refine (awake_any w).mono ?_
  rintro e w1 ⟨rfl, hb1⟩
  by_cases hs0 : 200 < l0.length
  · go_wp2
    go_ret
    exact ⟨rfl, hb1⟩
  by_cases hs1 : 40 < l1.length
  · go_wp2
    go_ret
    exact ⟨rfl, hb1⟩
  have hr01 := hr0.below hb1
  go_wp2_with fail
  refine (NewReader_any w1 hr01 (by omega)).mono ?_
  rintro e w2 ⟨g, rfl, hR2, hg2, hb2⟩
  have hb02 := bx_trans hb1 hb2
  have hgw : w.heap.size ≤ g := by have := hb1.size; omega
  go_wp2
  go_loopw [7, 8] (fun f j wr => ∃ (i : Nat) (s : RS), i ≤ l1.length ∧ j = .int .i64 i ∧ f = .int .i64 s.e ∧ s.b.length ≤ 200 ∧ Rr wr g s ∧ Below w.heap.size w wr) (fun _ j _ => l1.length - (intOf j).toNat)
  case atStart => exact ⟨0, ⟨l0, 0⟩, by omega, rfl, rfl, by show l0.length ≤ 200; omega, hR2, hb02⟩
  case round =>
    obtain ⟨i, s, hi, rfl, rfl, hsl, ⟨A, c, hR⟩, hbr⟩ := hrel
    clear hR2 hb02
    by_cases hlt : i < l1.length
    · obtain ⟨b, off, rfl, hbb, hd⟩ := (HR1.out.below hbr).at_ (k := i) (by simpa using hlt)
      have hcell : wr.cell? ⟨b, off + i, none⟩ = some (.int .u8 (l1[i].toNat : Int)) := hd i _ (by simp [cb, hlt])
      have hy8 := l1[i].toNat_lt
      have han := and3_u8 l1[i]
      obtain ⟨n, hn⟩ : ∃ n, n = l1[i].toNat / 4 := ⟨_, rfl⟩
      obtain ⟨q, hq⟩ : ∃ q, q = l1[i].toNat % 4 := ⟨_, rfl⟩
      have hsh : (l1[i].toNat : Int) / 4 = (n : Int) := by omega
      rw [← hq] at han
      have hn64 : n < 64 := by omega
      have hq4 : q = 0 ∨ q = 1 ∨ q = 2 ∨ q = 3 := by omega
      have hwn : IntKind.i64.wrap (n : Int) = (n : Int) := wr_i64 _ (by omega) (by omega)
      clear hd hq hn
      generalize l1[i].toNat = y at *
      by_cases he : s.e = 0
      · have hE := he
        rw [he]
        rcases hq4 with rfl | rfl | rfl | rfl
        · go_wp2_with fail
          refine (RNum_any wr hR (n : Int)).mono ?_
          rintro e w3 ⟨rfl, hR3, hG3⟩
          have hl3 := numS_len s (n : Int)
          have hb3 := hbr.trans (below_rg hG3 hgw hbr.size)
          obtain ⟨A3, c3, hR3⟩ := hR3
          generalize numV s (n : Int) = vx at *
          generalize numS s (n : Int) = s3 at *
          go_wp2_with fail
          refine (RErr_any w3 hR3).mono ?_
          rintro e w4 ⟨rfl, rfl⟩
          go_wp2
          go_roundw
          case rel => exact ⟨i + 1, s3, by omega, by go_num, rfl, by omega, ⟨A3, c3, hR3⟩, hb3⟩
          case measure => simp [intOf]; omega
        · go_wp2_with fail
          refine (RRaw_any wr hR (n : Int) (by omega) (by omega)).mono ?_
          rintro e w3 ⟨v3, rfl, hv3, hR3, hG3⟩
          obtain ⟨Av, cv, rfl, _⟩ := hv3
          have hl3 := rawS_len s (n : Int)
          have hb3 := hbr.trans (below_rg hG3 hgw hbr.size)
          obtain ⟨A3, c3, hR3⟩ := hR3
          generalize (rawV s (n : Int)).length = vl at *
          generalize rawS s (n : Int) = s3 at *
          go_wp2_with fail
          refine (RErr_any w3 hR3).mono ?_
          rintro e w4 ⟨rfl, rfl⟩
          go_wp2
          go_roundw
          case rel => exact ⟨i + 1, s3, by omega, by go_num, rfl, by omega, ⟨A3, c3, hR3⟩, hb3⟩
          case measure => simp [intOf]; omega
        · go_wp2_with fail
          refine (RBytes_any wr hR (n : Int) (by omega) (by omega)).mono ?_
          rintro e w3 ⟨v3, rfl, hv3, hR3, hG3⟩
          obtain ⟨Av, cv, rfl, _⟩ := hv3
          have hl3 := bytesS_len s (n : Int)
          have hb3 := hbr.trans (below_rg hG3 hgw hbr.size)
          obtain ⟨A3, c3, hR3⟩ := hR3
          generalize (bytesV s (n : Int)).length = vl at *
          generalize bytesS s (n : Int) = s3 at *
          go_wp2_with fail
          refine (RErr_any w3 hR3).mono ?_
          rintro e w4 ⟨rfl, rfl⟩
          go_wp2
          go_roundw
          case rel => exact ⟨i + 1, s3, by omega, by go_num, rfl, by omega, ⟨A3, c3, hR3⟩, hb3⟩
          case measure => simp [intOf]; omega
        · go_wp2_with fail
          refine (RBytes_any wr hR (n : Int) (by omega) (by omega)).mono ?_
          rintro e w3 ⟨v3, rfl, hv3, hR3, hG3⟩
          obtain ⟨Av, cv, rfl, _⟩ := hv3
          have hl3 := bytesS_len s (n : Int)
          have hb3 := hbr.trans (below_rg hG3 hgw hbr.size)
          obtain ⟨A3, c3, hR3⟩ := hR3
          generalize (bytesV s (n : Int)).length = vl at *
          generalize bytesS s (n : Int) = s3 at *
          go_wp2_with fail
          refine (RErr_any w3 hR3).mono ?_
          rintro e w4 ⟨rfl, rfl⟩
          go_wp2
          go_roundw
          case rel => exact ⟨i + 1, s3, by omega, by go_num, rfl, by omega, ⟨A3, c3, hR3⟩, hb3⟩
          case measure => simp [intOf]; omega
      · have he2 : (s.e == 0) = false := by simpa using he
        have HE := hid he
        clear he
        rcases hq4 with rfl | rfl | rfl | rfl
        · go_wp2_with fail
          refine (RNum_any wr hR (n : Int)).mono ?_
          rintro e w3 ⟨rfl, hR3, hG3⟩
          obtain ⟨z1, z2⟩ := stuck_num HE.out (n : Int)
          rw [z1]
          rw [z2] at hR3
          clear z1 z2
          have hb3 := hbr.trans (below_rg hG3 hgw hbr.size)
          obtain ⟨A3, c3, hR3⟩ := hR3
          have hend := stuck_end HE.out
          go_wp2_with fail
          refine (RErr_any w3 hR3).mono ?_
          rintro e w4 ⟨rfl, rfl⟩
          go_wp2_with fail
          refine (REnd_any w3 hR3).mono ?_
          rintro e w4 ⟨rfl, rfl⟩
          rw [hend]
          clear hend
          go_wp2_with fail
          refine (RErr_any w3 hR3).mono ?_
          rintro e w4 ⟨rfl, rfl⟩
          go_wp2
          go_roundw
          case rel => exact ⟨i + 1, s, by omega, by go_num, rfl, hsl, ⟨A3, c3, hR3⟩, hb3⟩
          case measure => simp [intOf]; omega
        · go_wp2_with fail
          refine (RRaw_any wr hR (n : Int) (by omega) (by omega)).mono ?_
          rintro e w3 ⟨v3, rfl, hv3, hR3, hG3⟩
          obtain ⟨Av, cv, rfl, _⟩ := hv3
          obtain ⟨z1, z2⟩ := stuck_raw HE.out (n : Int)
          rw [z2] at hR3
          rw [z1, show ([] : List UInt8).length = 0 from rfl]
          clear z1 z2
          have hb3 := hbr.trans (below_rg hG3 hgw hbr.size)
          obtain ⟨A3, c3, hR3⟩ := hR3
          have hend := stuck_end HE.out
          go_wp2_with fail
          refine (RErr_any w3 hR3).mono ?_
          rintro e w4 ⟨rfl, rfl⟩
          go_wp2_with fail
          refine (REnd_any w3 hR3).mono ?_
          rintro e w4 ⟨rfl, rfl⟩
          rw [hend]
          clear hend
          go_wp2_with fail
          refine (RErr_any w3 hR3).mono ?_
          rintro e w4 ⟨rfl, rfl⟩
          go_wp2
          go_roundw
          case rel => exact ⟨i + 1, s, by omega, by go_num, rfl, hsl, ⟨A3, c3, hR3⟩, hb3⟩
          case measure => simp [intOf]; omega
        · go_wp2_with fail
          refine (RBytes_any wr hR (n : Int) (by omega) (by omega)).mono ?_
          rintro e w3 ⟨v3, rfl, hv3, hR3, hG3⟩
          obtain ⟨Av, cv, rfl, _⟩ := hv3
          obtain ⟨z1, z2⟩ := stuck_bytes HE.out (n : Int)
          rw [z2] at hR3
          rw [z1, show ([] : List UInt8).length = 0 from rfl]
          clear z1 z2
          have hb3 := hbr.trans (below_rg hG3 hgw hbr.size)
          obtain ⟨A3, c3, hR3⟩ := hR3
          have hend := stuck_end HE.out
          go_wp2_with fail
          refine (RErr_any w3 hR3).mono ?_
          rintro e w4 ⟨rfl, rfl⟩
          go_wp2_with fail
          refine (REnd_any w3 hR3).mono ?_
          rintro e w4 ⟨rfl, rfl⟩
          rw [hend]
          clear hend
          go_wp2_with fail
          refine (RErr_any w3 hR3).mono ?_
          rintro e w4 ⟨rfl, rfl⟩
          go_wp2
          go_roundw
          case rel => exact ⟨i + 1, s, by omega, by go_num, rfl, hsl, ⟨A3, c3, hR3⟩, hb3⟩
          case measure => simp [intOf]; omega
        · go_wp2_with fail
          refine (RBytes_any wr hR (n : Int) (by omega) (by omega)).mono ?_
          rintro e w3 ⟨v3, rfl, hv3, hR3, hG3⟩
          obtain ⟨Av, cv, rfl, _⟩ := hv3
          obtain ⟨z1, z2⟩ := stuck_bytes HE.out (n : Int)
          rw [z2] at hR3
          rw [z1, show ([] : List UInt8).length = 0 from rfl]
          clear z1 z2
          have hb3 := hbr.trans (below_rg hG3 hgw hbr.size)
          obtain ⟨A3, c3, hR3⟩ := hR3
          have hend := stuck_end HE.out
          go_wp2_with fail
          refine (RErr_any w3 hR3).mono ?_
          rintro e w4 ⟨rfl, rfl⟩
          go_wp2_with fail
          refine (REnd_any w3 hR3).mono ?_
          rintro e w4 ⟨rfl, rfl⟩
          rw [hend]
          clear hend
          go_wp2_with fail
          refine (RErr_any w3 hR3).mono ?_
          rintro e w4 ⟨rfl, rfl⟩
          go_wp2
          go_roundw
          case rel => exact ⟨i + 1, s, by omega, by go_num, rfl, hsl, ⟨A3, c3, hR3⟩, hb3⟩
          case measure => simp [intOf]; omega
    · go_wp2
      go_ret
      exact ⟨rfl, hbr⟩
end Go.Proofs.Ytnlgogladafcdaa
