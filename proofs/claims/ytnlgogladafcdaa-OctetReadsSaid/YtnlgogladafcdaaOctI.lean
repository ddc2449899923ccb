/- OctetSizes: its walk. -/
import Derived.Test.YtnlgogladafcdaaOctH
namespace Go.Proofs.Ytnlgogladafcdaa
open Go.RowKit
set_option linter.unusedVariables false
theorem p256 (s : Nat) : 256 ^ s = 2 ^ (8 * s) := by rw [Nat.pow_mul]
theorem run_mk9 : ∀ w : World, (Instr.makeSlice 23 (.int .i64 9) (.int .i64 9)).run Try.prog w = .ok (.slice (some ⟨w.heap.size, 0, none⟩) 9 9) (w.alloc (.cells (zrow 9 (.int .u8 0)) 5)) := run_mk1 elB8 .i64 .i64 9 (by decide) (by decide)
set_option maxRecDepth 100000 in
set_option maxHeartbeats 1000000 in
theorem OctetSizes_walk (w : World) (x0 : Int) (hx0 : (Lit.int .u64 x0).wf = true) (n : Int) (hn : (Lit.int .i64 n).wf = true) :
    Calls Try.prog 7 #[.int .u64 x0, .int .i64 n] w fun e w' => e = .returned (.bool true) ∧ Below w.heap.size w w' := by
  have hxb := bounds_u64 hx0
  have hnb := bounds_i64 hn
  obtain ⟨x, rfl⟩ := Int.eq_ofNat_of_zero_le (show 0 ≤ x0 by omega)
  clear hx0 hn
  have hmk := run_mk9
  go_enter Try.func7, Try.ntmps7
  go_wp2_with fail
  refine (awake_any w).mono ?_
  rintro e w1 ⟨rfl, hb1⟩
  go_wp2_with fail
  refine (NewWriter_any w1).mono ?_
  rintro e w2 ⟨g, rfl, hW, hb2⟩
  go_wp2_with fail
  refine (WNum_any w2 hW hb2.size x n (by simp)).mono ?_
  rintro e w3 ⟨rfl, A3, c3, hG3⟩
  rw [List.nil_append] at hG3
  have hb3 := hb2.trans hG3.below
  have hle : (numW x n).length ≤ 8 := by
    unfold numW
    split
    · rename_i h
      simp only [mayB, Bool.and_eq_true, decide_eq_true_eq] at h
      rw [numL_length]; omega
    · simp
  obtain ⟨bw, hbw⟩ : ∃ bw, bw = numW x n := ⟨_, rfl⟩
  rw [← hbw] at hG3 hle
  have HBW := hid hbw
  clear hbw
  go_wp2_with fail
  refine (Out_any w3 hG3.isW (by omega)).mono ?_
  rintro e w4 ⟨v, rfl, hown, hb4⟩
  obtain ⟨A4, c4, rfl, hc4, hm4, hrd4, hout4⟩ := own_slO hown
  have hb03 := bx_trans hb1 hb3
  have hb04 := bx_trans hb03 hb4
  clear hown hG3 hb3 hb4 hout4
  by_cases hmay : mayB n = true
  · have hm2 := hmay
    simp only [mayB, Bool.and_eq_true, decide_eq_true_eq] at hm2
    obtain ⟨n1, n8⟩ := hm2
    obtain ⟨s, rfl⟩ := Int.eq_ofNat_of_zero_le (show 0 ≤ n by omega)
    have hbwl : bw = numL x s := by rw [HBW.out]; unfold numW; rw [if_pos hmay]; rfl
    have hlen : bw.length = s := by rw [hbwl, numL_length]
    obtain ⟨e1, e2⟩ := num_back (x := x) (size := s) (by omega) (by omega) []
    rw [List.append_nil, ← hbwl] at e1 e2
    have HL := hid hlen
    have E1 := hid e1
    have E2 := hid e2
    clear hlen hbwl e1 e2 hmay
    have k1 : ¬ (s : Int) < 1 := by omega
    have k8 : ¬ (8 : Int) < (s : Int) := by omega
    by_cases h8 : s = 8
    · have hlt : ¬ (s : Int) < 8 := by omega
      have h264 : (256 : Nat) ^ 8 = 18446744073709551616 := by decide
      have hE1 : numV ⟨bw, 0⟩ (s : Int) = x := by
        rw [E1.out, h8, h264]
        exact Nat.mod_eq_of_lt (by omega)
      clear h264
      have HE1 := hid hE1
      clear h8 hE1
      go_wp2_with fail
      refine (NewReader_any w4 hrd4 (by omega)).mono ?_
      rintro e w5 ⟨g5, rfl, ⟨A5, c5, hR5⟩, hg5, hb5⟩
      have hb05 := bx_trans hb04 hb5
      have hgw : w.heap.size ≤ g5 := by have := hb04.size; omega
      rw [HL.out]
      clear hrd4
      go_wp2_with fail
      refine (RNum_any w5 hR5 (s : Int)).mono ?_
      rintro e w6 ⟨rfl, hR6, hG6⟩
      rw [E2.out] at hR6
      rw [HE1.out]
      have hb06 := hb05.trans (below_rg hG6 hgw hb05.size)
      obtain ⟨AR, cR, hR6⟩ := hR6
      go_wp2_with fail
      refine (REnd_any w6 hR6).mono ?_
      rintro e w7 ⟨rfl, rfl⟩
      rw [show endE ⟨[], 0⟩ = 0 from by decide +kernel]
      go_wp2
      go_ret
      exact ⟨rfl, hb06⟩
    · have hlt : (s : Int) < 8 := by omega
      obtain ⟨t, ht⟩ : ∃ t, t = 8 * s := ⟨_, rfl⟩
      obtain ⟨P, hP⟩ : ∃ P, P = 2 ^ t := ⟨_, rfl⟩
      obtain ⟨Q, hQ⟩ : ∃ Q, Q = P - 1 := ⟨_, rfl⟩
      obtain ⟨y, hy⟩ : ∃ y, y = x % P := ⟨_, rfl⟩
      have hPb : P ≤ 72057594037927936 := by rw [hP]; exact Nat.le_trans (Nat.pow_le_pow_right (by decide) (show t ≤ 56 by omega)) (by decide)
      have hP1 : 1 ≤ P := by rw [hP]; exact Nat.one_le_two_pow
      have h8t : 8 * (s : Int) = (t : Int) := by omega
      have hwt : IntKind.u64.wrap (t : Int) = (t : Int) := by
        simp [IntKind.wrap, IntKind.bits, IntKind.signed]
        omega
      have hsl : IntKind.u64.wrap ((2 : Int) ^ t) = (P : Int) := by
        have : ((2 : Int) ^ t) = (P : Int) := by rw [hP]; simp
        rw [this]
        simp [IntKind.wrap, IntKind.bits, IntKind.signed]
        omega
      have hsb : (P : Int) - 1 = (Q : Int) := by omega
      have han : bits BinOp.and IntKind.u64 (x : Int) (Q : Int) = (y : Int) := by
        rw [u64_and_nat _ _ (by omega) (by omega), hQ, hP, Nat.and_two_pow_sub_one_eq_mod, hy, hP]
      have ht64 : t ≤ 64 := by omega
      have hE1 : numV ⟨bw, 0⟩ (s : Int) = y := by rw [E1.out, hy, hP, ht, p256]
      have HE1 := hid hE1
      have hQb : Q < 18446744073709551616 := by omega
      clear h8 hE1 ht hP hQ hy
      go_wp2_with fail
      refine (NewReader_any w4 hrd4 (by omega)).mono ?_
      rintro e w5 ⟨g5, rfl, ⟨A5, c5, hR5⟩, hg5, hb5⟩
      have hb05 := bx_trans hb04 hb5
      have hgw : w.heap.size ≤ g5 := by have := hb04.size; omega
      rw [HL.out]
      clear hrd4
      go_wp2_with fail
      refine (RNum_any w5 hR5 (s : Int)).mono ?_
      rintro e w6 ⟨rfl, hR6, hG6⟩
      rw [E2.out] at hR6
      rw [HE1.out]
      have hb06 := hb05.trans (below_rg hG6 hgw hb05.size)
      obtain ⟨AR, cR, hR6⟩ := hR6
      go_wp2_with fail
      refine (REnd_any w6 hR6).mono ?_
      rintro e w7 ⟨rfl, rfl⟩
      rw [show endE ⟨[], 0⟩ = 0 from by decide +kernel]
      go_wp2
      go_ret
      exact ⟨rfl, hb06⟩
  · have hmay2 : mayB n = false := by simpa using hmay
    have hbw0 : bw = [] := by rw [HBW.out]; unfold numW; rw [if_neg hmay]
    have hout : n < 1 ∨ 8 < n := by
      simp only [mayB, Bool.and_eq_true, decide_eq_true_eq] at hmay
      omega
    obtain ⟨l9, hl9, hl9n⟩ : ∃ l9 : List UInt8, (zrow 9 (.int .u8 0)).toList = l9.map cb ∧ l9.length = 9 := ⟨List.replicate 9 0, by simp [zrow, cb], by simp⟩
    have hrd9 : Rd (w4.alloc (.cells (zrow 9 (.int .u8 0)) 5)) (w4.alloc (.cells (zrow 9 (.int .u8 0)) 5)).heap.size (some ⟨w4.heap.size, 0, none⟩) (l9.map cb) := rd_of_row (heap_new rfl) hl9
    have hb4a : Below w.heap.size w (w4.alloc (.cells (zrow 9 (.int .u8 0)) 5)) := bx_alloc hb04 _
    have E1 : Hid (numV ⟨l9, 0⟩ n = 0) := by unfold numV; rw [if_neg hmay]; exact hid rfl
    have E2 : Hid (numS ⟨l9, 0⟩ n = ⟨l9, 1⟩) := by unfold numS; rw [if_neg hmay]; exact hid rfl
    subst hbw0
    rw [show ([] : List UInt8).length = 0 from rfl] at *
    clear hl9 hmay hmay2
    have HRD9 := hid hrd9
    have HB4A := hid hb4a
    clear hrd9 hb4a
    rcases hout with ho | ho
    · go_wp2_with fail
      have hNR := NewReader_any _ (c := 9) HRD9.out (by omega)
      rw [hl9n] at hNR
      refine hNR.mono ?_
      rintro e w5 ⟨g5, rfl, ⟨A5, c5, hR5⟩, hg5, hb5⟩
      have hb05 := bx_trans HB4A.out hb5
      have hgw : w.heap.size ≤ g5 := by have := HB4A.out.size; omega
      clear hrd4
      go_wp2_with fail
      refine (RNum_any w5 hR5 n).mono ?_
      rintro e w6 ⟨rfl, hR6, hG6⟩
      rw [E2.out] at hR6
      rw [E1.out]
      have hb06 := hb05.trans (below_rg hG6 hgw hb05.size)
      obtain ⟨AR, cR, hR6⟩ := hR6
      go_wp2_with fail
      refine (RErr_any w6 hR6).mono ?_
      rintro e w7 ⟨rfl, rfl⟩
      rw [show (⟨l9, 1⟩ : RS).e = 1 from rfl]
      go_wp2
      go_ret
      exact ⟨rfl, hb06⟩
    · have ho1 : ¬ n < 1 := by omega
      go_wp2_with fail
      have hNR := NewReader_any _ (c := 9) HRD9.out (by omega)
      rw [hl9n] at hNR
      refine hNR.mono ?_
      rintro e w5 ⟨g5, rfl, ⟨A5, c5, hR5⟩, hg5, hb5⟩
      have hb05 := bx_trans HB4A.out hb5
      have hgw : w.heap.size ≤ g5 := by have := HB4A.out.size; omega
      clear hrd4
      go_wp2_with fail
      refine (RNum_any w5 hR5 n).mono ?_
      rintro e w6 ⟨rfl, hR6, hG6⟩
      rw [E2.out] at hR6
      rw [E1.out]
      have hb06 := hb05.trans (below_rg hG6 hgw hb05.size)
      obtain ⟨AR, cR, hR6⟩ := hR6
      go_wp2_with fail
      refine (RErr_any w6 hR6).mono ?_
      rintro e w7 ⟨rfl, rfl⟩
      rw [show (⟨l9, 1⟩ : RS).e = 1 from rfl]
      go_wp2
      go_ret
      exact ⟨rfl, hb06⟩
end Go.Proofs.Ytnlgogladafcdaa
