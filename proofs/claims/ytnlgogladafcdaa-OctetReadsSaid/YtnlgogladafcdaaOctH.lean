/- octet: the plain law; OctetBig, OctetSizes, walked. -/
import Derived.Test.YtnlgogladafcdaaOctG
import Derived.OpenShut
namespace Go.Proofs.Ytnlgogladafcdaa
open Go.RowKit
set_option linter.unusedVariables false

theorem numL_succ (x k : Nat) : numL x (k + 1) = numL (x / 256) k ++ [byN x] := by
  unfold numL
  rw [List.range_succ, List.map_append]
  congr 1
  · apply List.map_congr_left
    intro i hi
    have hik : i < k := List.mem_range.1 hi
    congr 1
    rw [Nat.div_div_eq_div_mul]
    congr 1
    rw [show 8 * (k + 1 - 1 - i) = 8 + 8 * (k - 1 - i) from by omega, Nat.pow_add]
  · simp
theorem foldV_num : ∀ (k x : Nat), foldV (numL x k) = x % 256 ^ k
  | 0, x => by simp [numL, foldV, Nat.mod_one]
  | k + 1, x => by
    rw [numL_succ, foldV_snoc, foldV_num k (x / 256), byN_toNat, Nat.pow_succ, Nat.mul_comm (256 ^ k) 256, Nat.mod_mul]
    omega
theorem takeV_pre {l m : List UInt8} {n : Nat} (h : l.length = n) : takeV ⟨l ++ m, 0⟩ n = l ∧ takeS ⟨l ++ m, 0⟩ n = ⟨m, 0⟩ := by
  subst h
  unfold takeV takeS
  rw [if_pos rfl, if_pos rfl, if_neg (by simp), if_neg (by simp)]
  exact ⟨List.take_left, by rw [List.drop_left]⟩
/-- What is put is read. -/
theorem num_back {x size : Nat} (h1 : 1 ≤ size) (h8 : size ≤ 8) (m : List UInt8) : numV ⟨numL x size ++ m, 0⟩ size = x % 256 ^ size ∧ numS ⟨numL x size ++ m, 0⟩ size = ⟨m, 0⟩ := by
  have hm : mayB (size : Int) = true := by
    unfold mayB
    rw [Bool.and_eq_true, decide_eq_true_eq, decide_eq_true_eq]
    omega
  obtain ⟨e1, e2⟩ := takeV_pre (m := m) (numL_length x size)
  unfold numV numS
  rw [if_pos hm, if_pos hm, Int.toNat_natCast, e1, e2, foldV_num]
  exact ⟨rfl, rfl⟩
theorem num_back2 {x : Nat} (hx : x < 65536) (m : List UInt8) : numV ⟨numL x 2 ++ m, 0⟩ 2 = x ∧ numS ⟨numL x 2 ++ m, 0⟩ 2 = ⟨m, 0⟩ := by
  obtain ⟨h1, h2⟩ := num_back (x := x) (size := 2) (by omega) (by omega) m
  refine ⟨?_, h2⟩
  have : (256 : Nat) ^ 2 = 65536 := by decide
  rw [this, Nat.mod_eq_of_lt hx] at h1
  exact h1
theorem bytesW_small {b : List UInt8} (h : b.length ≤ 65535) : bytesW b = numL b.length 2 ++ b := by
  unfold bytesW
  rw [Nat.min_eq_left h, List.take_of_length_le h]
theorem raw_all (b m : List UInt8) : rawV ⟨b ++ m, 0⟩ (b.length : Int) = b ∧ rawS ⟨b ++ m, 0⟩ (b.length : Int) = ⟨m, 0⟩ := by
  unfold rawV rawS
  rw [if_neg (by omega), if_neg (by omega), Int.toNat_natCast]
  exact takeV_pre rfl
theorem bytes_back {b : List UInt8} (h : b.length ≤ 65535) (m : List UInt8) {most : Int} (hm : (b.length : Int) ≤ most) : bytesV ⟨bytesW b ++ m, 0⟩ most = b ∧ bytesS ⟨bytesW b ++ m, 0⟩ most = ⟨m, 0⟩ := by
  rw [bytesW_small h, List.append_assoc]
  obtain ⟨e1, e2⟩ := num_back2 (x := b.length) (by omega) (b ++ m)
  obtain ⟨h1, h2⟩ := bytes_ok (s := ⟨numL b.length 2 ++ (b ++ m), 0⟩) (most := most) (by rw [e2]) (by rw [e1]; omega)
  rw [h1, h2, e1, e2]
  exact raw_all b m
theorem bytes_over {b : List UInt8} (h : b.length ≤ 65535) {most : Int} (hm : most < (b.length : Int) ∨ most < 0) : bytesV ⟨bytesW b, 0⟩ most = [] ∧ bytesS ⟨bytesW b, 0⟩ most = ⟨b, 13⟩ := by
  rw [bytesW_small h]
  obtain ⟨e1, e2⟩ := num_back2 (x := b.length) (by omega) b
  obtain ⟨h1, h2⟩ := bytes_big (s := ⟨numL b.length 2 ++ b, 0⟩) (most := most) (by rw [e2]) (by rw [e1]; omega)
  rw [h1, h2, e2]
  exact ⟨rfl, rfl⟩
theorem bytesW_len {b : List UInt8} (h : b.length ≤ 65535) : (bytesW b).length = b.length + 2 := by rw [bytesW_small h, List.length_append, numL_length]; omega
set_option maxRecDepth 100000 in
set_option maxHeartbeats 1000000 in
theorem OctetBig_walk (w : World) (A0 : Option Addr) (c0 : Nat) (l0 : List UInt8) (hc0 : l0.length ≤ c0) (hm0 : c0 ≤ maxLen) (hr0 : Rd w w.heap.size A0 (l0.map cb)) (most : Int) (hmost : (Lit.int .i64 most).wf = true) :
    Calls Try.prog 8 #[.slice A0 l0.length c0, .int .i64 most] w fun e w' => e = .returned (.bool true) ∧ Below w.heap.size w w' := by
  have hmo : most ≤ 9223372036854775807 := by have := bounds_i64 hmost; omega
  have hmm := hm0
  unfold maxLen at hm0
  clear hmost
  go_enter Try.func8, Try.ntmps8
  go_wp2_with fail
  refine (awake_any w).mono ?_
  rintro e w1 ⟨rfl, hb1⟩
  by_cases hbig : 300 < l0.length
  · go_wp2
    go_ret
    exact ⟨rfl, hb1⟩
  have hr1 := hr0.below hb1
  go_wp2_with fail
  refine (NewWriter_any w1).mono ?_
  rintro e w2 ⟨g, rfl, hW, hb2⟩
  have hr2 := hr0.below (bx_trans hb1 hb2)
  go_wp2_with fail
  refine (WBytes_any w2 hW hb2.size hr2 hc0 hmm (sep_rd hW hb1.size hr2) (by simp; omega)).mono ?_
  rintro e w3 ⟨rfl, A3, c3, hG3⟩
  rw [List.nil_append] at hG3
  have hb3 := hb2.trans hG3.below
  have hlw := bytesW_len (b := l0) (by omega)
  obtain ⟨bw, hbw⟩ : ∃ bw, bw = bytesW l0 := ⟨_, rfl⟩
  rw [← hbw] at hG3 hlw
  have hl302 : bw.length ≤ 302 := by omega
  have HBW := hid hbw
  clear hbw hlw
  go_wp2_with fail
  refine (Out_any w3 hG3.isW (by omega)).mono ?_
  rintro e w4 ⟨v, rfl, hown, hb4⟩
  obtain ⟨A4, c4, rfl, hc4, hm4, hrd4, hout4⟩ := own_slO hown
  go_wp2_with fail
  refine (NewReader_any w4 hrd4 (by omega)).mono ?_
  rintro e w5 ⟨g5, rfl, ⟨A5, c5, hR5⟩, hg5, hb5⟩
  have hb03 := bx_trans hb1 hb3
  have hb05 := bx_trans (bx_trans hb03 hb4) hb5
  have hgw : w.heap.size ≤ g5 := by have := (bx_trans hb03 hb4).size; omega
  clear hrd4 hout4 hown hG3 hb4 hb3 hr2 hr1
  go_wp2_with fail
  refine (RBytes_any w5 hR5 most hmo (by show bw.length ≤ _; omega)).mono ?_
  rintro e w6 ⟨v6, rfl, hv6, hR6, hG6⟩
  have hb06 := hb05.trans (below_rg hG6 hgw hb05.size)
  by_cases hlt : most < (l0.length : Int) ∨ most < 0
  · obtain ⟨e1, e2⟩ := bytes_over (b := l0) (by omega) hlt
    rw [HBW.out, e1] at hv6
    rw [HBW.out, e2] at hR6
    obtain ⟨A6, c6, rfl, _⟩ := hv6
    obtain ⟨AR, cR, hR6⟩ := hR6
    rw [show ([] : List UInt8).length = 0 from rfl]
    rcases hlt with hlt | hlt
    · go_wp2_with fail
      refine (RErr_any w6 hR6).mono ?_
      rintro e w7 ⟨rfl, rfl⟩
      rw [show (⟨l0, 13⟩ : RS).e = 13 from rfl]
      go_wp2_with fail
      refine (REnd_any w6 hR6).mono ?_
      rintro e w7 ⟨rfl, rfl⟩
      rw [show endE ⟨l0, 13⟩ = 13 from by unfold endE; rw [if_pos (show (13 : Int) ≠ 0 by decide)]]
      go_wp2
      go_ret
      exact ⟨rfl, hb06⟩
    · have hlt2 : most < (l0.length : Int) := by omega
      go_wp2_with fail
      refine (RErr_any w6 hR6).mono ?_
      rintro e w7 ⟨rfl, rfl⟩
      rw [show (⟨l0, 13⟩ : RS).e = 13 from rfl]
      go_wp2_with fail
      refine (REnd_any w6 hR6).mono ?_
      rintro e w7 ⟨rfl, rfl⟩
      rw [show endE ⟨l0, 13⟩ = 13 from by unfold endE; rw [if_pos (show (13 : Int) ≠ 0 by decide)]]
      go_wp2
      go_ret
      exact ⟨rfl, hb06⟩
  · obtain ⟨e1, e2⟩ := bytes_back (b := l0) (by omega) [] (most := most) (by omega)
    rw [List.append_nil] at e1 e2
    rw [HBW.out, e1] at hv6
    rw [HBW.out, e2] at hR6
    obtain ⟨A6, c6, rfl, hc6, _, hrd6, _⟩ := hv6
    obtain ⟨AR, cR, hR6⟩ := hR6
    have n1 : ¬ most < (l0.length : Int) := by omega
    have n2 : ¬ most < 0 := by omega
    have hcv1 := conv_str (P := Try.prog) (src := 23) (dst := 9) Try.underlying23 Try.underlying5 Try.underlying9 c6 hrd6
    have hcv2 := conv_str (P := Try.prog) (src := 23) (dst := 9) Try.underlying23 Try.underlying5 Try.underlying9 c0 (hr0.below hb06)
    clear hlt
    go_wp2_with fail
    refine (REnd_any w6 hR6).mono ?_
    rintro e w7 ⟨rfl, rfl⟩
    rw [show endE ⟨[], 0⟩ = 0 from by decide +kernel]
    go_wp2
    go_ret
    exact ⟨ret_val (by simp), hb06⟩
end Go.Proofs.Ytnlgogladafcdaa
