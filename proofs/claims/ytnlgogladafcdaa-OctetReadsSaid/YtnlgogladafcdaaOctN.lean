/- The document's answer for octet: Num, Bytes, walked. -/
import Derived.Test.YtnlgogladafcdaaOctJ
namespace Go.Proofs.Ytnlgogladafcdaa
open Go.RowKit
set_option linter.unusedVariables false
/-- A string of bytes. -/
def sv (l : List UInt8) : Value := .string ⟨l.toArray⟩
theorem str_app (a b : List UInt8) : (⟨a.toArray⟩ : ByteArray) ++ (⟨b.toArray⟩ : ByteArray) = ⟨(a ++ b).toArray⟩ := by
  apply ByteArray.ext
  rw [ByteArray.data_append]
  simp
theorem numL_cons (x k : Nat) : numL x (k + 1) = byN (x / 2 ^ (8 * k)) :: numL x k := by
  unfold numL
  rw [List.range_succ_eq_map, List.map_cons, List.map_map]
  congr 1
  apply List.map_congr_left
  intro i hi
  have hik : i < k := List.mem_range.1 hi
  show byN (x / 2 ^ (8 * (k + 1 - 1 - (i + 1)))) = _
  congr 4
  omega
theorem lit1 (w : World) (c : UInt8) : Rd (w.alloc (.cells #[.int .u8 (c.toNat : Int)] 5)) (w.heap.size + 1) (some ⟨w.heap.size, 0, none⟩) ([c].map cb) := by
  have := rd_of_row (w := w.alloc (.cells #[.int .u8 (c.toNat : Int)] 5)) (heap_new rfl) (xs := [c].map cb) rfl
  simpa using this
theorem lit1_str (w : World) (c : UInt8) : (convert 23 9 (.slice (some ⟨w.heap.size, 0, none⟩) 1 1)).run Try.prog (w.alloc (.cells #[.int .u8 (c.toNat : Int)] 5)) = .ok (.string ⟨#[c]⟩) (w.alloc (.cells #[.int .u8 (c.toNat : Int)] 5)) :=
  conv_str (P := Try.prog) (src := 23) (dst := 9) (l := [c]) Try.underlying23 Try.underlying5 Try.underlying9 1 (lit1 w c)
set_option maxRecDepth 100000 in
set_option maxHeartbeats 1000000 in
theorem refNum_any (w : World) (x : Nat) (hx : x < 18446744073709551616) (n : Int) :
    Calls Try.prog 18 #[.int .u64 (x : Int), .int .i64 n] w fun e w' => e = .returned (.string ⟨(numW x n).toArray⟩) ∧ Below w.heap.size w w' := by
  unfold numW
  by_cases hm : mayB n = true
  · have hm2 := hm
    simp only [mayB, Bool.and_eq_true, decide_eq_true_eq] at hm2
    obtain ⟨n1, n8⟩ := hm2
    obtain ⟨s, rfl⟩ := Int.eq_ofNat_of_zero_le (show 0 ≤ n by omega)
    have k1 : ¬ (s : Int) < 1 := by omega
    have k8 : ¬ (8 : Int) < (s : Int) := by omega
    rw [if_pos hm, Int.toNat_natCast]
    clear hm
    go_enter Try.func18, Try.ntmps18
    go_wp2
    go_loopw [0, 5, 6] (fun y v j wr => ∃ (i : Nat), i ≤ s ∧ y = .int .u64 ((x / 2 ^ (8 * i) : Nat) : Int) ∧ v = .string ⟨(numL x i).toArray⟩ ∧ j = .int .i64 i ∧ Below w.heap.size w wr) (fun _ _ j _ => s - (intOf j).toNat)
    case atStart => exact ⟨0, by omega, by simp, rfl, rfl, Below.refl _ _⟩
    case round =>
      obtain ⟨i, hi, rfl, rfl, rfl, hbr⟩ := hrel
      by_cases hlt : i < s
      · have hyb : x / 2 ^ (8 * i) < 18446744073709551616 := Nat.lt_of_le_of_lt (Nat.div_le_self _ _) hx
        have hnc := numL_cons x i
        have hdd : x / 2 ^ (8 * (i + 1)) = x / 2 ^ (8 * i) / 256 := by
          rw [Nat.div_div_eq_div_mul]
          congr 1
          rw [show 8 * (i + 1) = 8 * i + 8 by omega, Nat.pow_add]
        have hc8 : IntKind.u8.wrap ((x / 2 ^ (8 * i) : Nat) : Int) = ((byN (x / 2 ^ (8 * i))).toNat : Int) := by
          rw [byN_toNat]
          simp only [IntKind.wrap, IntKind.bits, IntKind.signed]
          simp
        generalize x / 2 ^ (8 * i) = y at *
        generalize byN y = c at *
        have hls := lit1_str wr c
        have hsa := str_app [c] (numL x i)
        have hq : ((y : Int) / 256) = ((y / 256 : Nat) : Int) := by simp
        have HQ := hid hq
        have HNC := hid hnc
        have HDD := hid hdd
        have hno : ¬ 9223372036854775807 < 1 + (numL x i).length := by rw [numL_length]; omega
        clear hq hnc hdd
        go_wp2
        go_roundw
        case rel => exact ⟨i + 1, by omega, by rw [HQ.out, HDD.out], by rw [HNC.out], by go_num, bx_alloc hbr _⟩
        case measure => simp [intOf]; omega
      · have hil : i = s := by omega
        subst hil
        clear hlt
        go_wp2
        go_ret
        exact ⟨rfl, hbr⟩
  · rw [if_neg hm]
    have hout : n < 1 ∨ 8 < n := by
      simp only [mayB, Bool.and_eq_true, decide_eq_true_eq] at hm
      omega
    go_enter Try.func18, Try.ntmps18
    rcases hout with ho | ho
    · go_wp2
      go_ret
      exact ⟨rfl, Below.refl _ _⟩
    · have ho1 : ¬ n < 1 := by omega
      go_wp2
      go_ret
      exact ⟨rfl, Below.refl _ _⟩
theorem maxed {b : List UInt8} (h : 65535 < b.length) : bytesW b = numL 65535 2 ++ b.take 65535 := by
  unfold bytesW
  rw [Nat.min_eq_right (by omega)]
set_option maxRecDepth 100000 in
set_option maxHeartbeats 1000000 in
theorem refBytes_any (w : World) (b : List UInt8) (hb : b.length ≤ 65535) :
    Calls Try.prog 19 #[.string ⟨b.toArray⟩] w fun e w' => e = .returned (.string ⟨(bytesW b).toArray⟩) ∧ Below w.heap.size w w' := by
  have hsz : (⟨b.toArray⟩ : ByteArray).size = b.length := by simp [ByteArray.size]
  have hsm := bytesW_small hb
  have hwr : IntKind.u64.wrap (b.length : Int) = (b.length : Int) := by
    simp only [IntKind.wrap, IntKind.bits, IntKind.signed]
    simp
    omega
  have hsa := str_app (numL b.length 2) b
  have hno : ¬ 9223372036854775807 < (numL b.length 2).length + b.length := by rw [numL_length]; omega
  rw [hsm]
  go_enter Try.func19, Try.ntmps19
  go_wp2_with fail
  refine (refNum_any w b.length (by omega) 2).mono ?_
  rintro e w1 ⟨rfl, hb1⟩
  rw [show numW b.length 2 = numL b.length 2 from rfl]
  go_wp2
  go_ret
  exact ⟨rfl, hb1⟩
end Go.Proofs.Ytnlgogladafcdaa
