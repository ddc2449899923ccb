
/- SHA-256: awake. -/
import Derived.Test.YtebabkccpbdphaaDoorShaI
namespace Go.Proofs.YtebabkccpbdphaaDoor
open Go.RowKit
set_option linter.unusedVariables false

set_option maxRecDepth 100000 in
set_option maxHeartbeats 1000000 in
theorem awake_any (w : World) (hL : Laid w) : Calls Tryd.prog 8 #[] w fun e w' => e = .returned (.bool true) ∧ Below w.heap.size w w' := by
  have HL := hid hL
  clear hL
  have kc := conv_const Tryd.underlying22 Tryd.underlying5
  go_enter Tryd.func8, Tryd.ntmps8
  go_wp2_with fail
  refine (Of_any w HL.out (A := none) (c := 0) (B' := 0) (ls := []) (.inl rfl) (Nat.zero_le _) (by simp) (by simp)).mono ?_
  rintro e w1 ⟨rfl, hb1⟩
  rw [show ([] : List (List UInt8)).flatten = [] from rfl]
  go_wp2_with fail
  refine (Text_any w1 (shaL_length _)).mono ?_
  rintro e w2 ⟨rfl, hb2⟩
  rw [sha_empty]
  have hb02 := bx_trans hb1 hb2
  go_wp2_with fail
  have hbA : Below w.heap.size w (((w2.alloc (.cells #[.int .u8 97] 5 (1, 2))).alloc (.cells #[.int .u8 98, .int .u8 99] 5 (2, 3))).alloc (.cells #[.slice (some ⟨w2.heap.size, 0, none⟩) 1 1, .slice (some ⟨w2.heap.size + 1, 0, none⟩) 2 2] 22)) := bx_alloc (bx_alloc (bx_alloc hb02 _) _) _
  refine (Of_any _ (HL.out.below hbA) (ls := [[97], [98, 99]]) (?_ : RdBB _ (((w2.alloc (.cells #[.int .u8 97] 5 (1, 2))).alloc (.cells #[.int .u8 98, .int .u8 99] 5 (2, 3))).alloc (.cells #[.slice (some ⟨w2.heap.size, 0, none⟩) 1 1, .slice (some ⟨w2.heap.size + 1, 0, none⟩) 2 2] 22)).heap.size _ _) (Nat.le_refl _) (by simp) (by simp)).mono ?_
  · refine rdBB_of_row (heap_new (by simp)) (by rfl) ?_
    intro i v l hv hl
    rcases i with _ | _ | i
    · simp at hv hl
      subst hv hl
      exact rdB_of_row (heap_old (heap_old (heap_new rfl))) rfl rfl (by simp)
    · simp at hv hl
      subst hv hl
      exact rdB_of_row (heap_old (heap_new (by simp))) rfl rfl (by simp)
    · simp at hl
  rintro e w3 ⟨rfl, hb3⟩
  rw [show ([[97], [98, 99]] : List (List UInt8)).flatten = [97, 98, 99] from rfl]
  have hb03 := bx_trans hbA hb3
  clear hbA hb3 hb2 hb1 hb02
  go_wp2_with fail
  refine (Text_any w3 (shaL_length _)).mono ?_
  rintro e w4 ⟨rfl, hb4⟩
  rw [sha_abc]
  have hb04 := bx_trans hb03 hb4
  go_wp2_with fail
  refine (Leaf_any w4 (HL.out.below hb04) (A := none) (c := 0) (B' := 0) (l := []) (.inl rfl) (Nat.zero_le _) (Nat.le_refl _) (by simp)).mono ?_
  rintro e w5 ⟨rfl, hb5⟩
  have hb05 := bx_trans hb04 hb5
  clear hb4 hb5 hb03 hb04
  go_wp2_with fail
  obtain ⟨wc, hwc⟩ : ∃ wc, wc = w5.alloc (.cells #[.int .u8 0] 5) := ⟨_, rfl⟩
  have hbC : Below w.heap.size w wc := by rw [hwc]; exact bx_alloc hb05 _
  have h0 : RdB wc wc.heap.size (.slice (some ⟨w5.heap.size, 0, none⟩) 1 1) [0] := by
    rw [hwc]
    exact rdB_of_row (heap_new rfl) rfl rfl (Nat.le_refl _)
  have h3 := rdBB_one (t := 22) h0 (Nat.le_refl _)
  have hbB : Below w.heap.size w (wc.alloc (.cells #[.slice (some ⟨w5.heap.size, 0, none⟩) 1 1] 22)) := bx_alloc hbC _
  have hsc : wc.heap.size = w5.heap.size + 1 := by rw [hwc]; simp
  rw [← hwc]
  rw [hsc] at h3
  refine (Of_any _ (HL.out.below hbB) (ls := [[0]]) h3 (by simp) (by simp) (by simp)).mono ?_
  rintro e w6 ⟨rfl, hb6⟩
  rw [show ([[0]] : List (List UInt8)).flatten = [0] from rfl]
  have hb06 := bx_trans hbB hb6
  have heq := eq_hash (shaL [0]) (shaL [0]) (shaL_length _) (shaL_length _)
  clear hbB hb6 hb05 hwc hbC h0 h3 hsc
  generalize shaL [0] = H at *
  go_wp2
  go_ret
  exact ⟨ret_val (by simp), hb06⟩
end Go.Proofs.YtebabkccpbdphaaDoor
