/- The laws of crc: their walks. -/
import Derived.Test.YthhijbnmljndeaaCrc
import Derived.Test.YthhijbnmljndeaaCrcRef
namespace Go.Proofs.Ythhijbnmljndeaa
open Go.RowKit
set_option maxHeartbeats 800000 in
theorem awake_any (w : World) :
    Calls Try.prog 7 #[] w fun e w' => e = .returned (.bool true) ∧ Below w.heap.size w w' := by
  have kc := conv_const Try.underlying22 Try.underlying5
  go_enter Try.func7, Try.ntmps7
  go_wp2_with fail
  refine (crcOf_any _ _ _ [[49, 50, 51, 52, 53, 54, 55, 56, 57]] (by simp) (by simp) ?_).mono ?_
  · refine rdBB_of_row (heap_new (by simp)) (by rfl) ?_
    intro i v l hv hl
    rcases i with _ | i
    · simp at hv hl
      subst hv hl
      exact rdB_of_row (heap_old (heap_new rfl)) rfl rfl (by simp)
    · simp at hl
  rintro e w1 ⟨rfl, hb1⟩
  rw [show crc [[49, 50, 51, 52, 53, 54, 55, 56, 57]].flatten = 3421780262 by decide +kernel]
  go_wp2_with fail
  refine (crcOf_any _ _ _ [[49, 50, 51, 52, 53], [], [54, 55, 56, 57]] (by simp) (by simp) ?_).mono ?_
  · refine rdBB_of_row (heap_new (by simp)) (by rfl) ?_
    intro i v l hv hl
    rcases i with _ | _ | _ | i
    · simp at hv hl
      subst hv hl
      exact rdB_of_row (heap_old (heap_old (heap_new rfl))) rfl rfl (by simp)
    · simp at hv hl
      subst hv hl
      exact rdB_nil _ _ _ _
    · simp at hv hl
      subst hv hl
      exact rdB_of_row (heap_old (heap_new (by simp))) rfl rfl (by simp)
    · simp at hl
  rintro e w2 ⟨rfl, hb2⟩
  rw [show crc [[49, 50, 51, 52, 53], [], [54, 55, 56, 57]].flatten = 3421780262 by decide +kernel]
  go_wp2_with fail
  refine (crcOf_any _ _ _ [] (by simp) (by simp) (.inl rfl)).mono ?_
  rintro e w3 ⟨rfl, hb3⟩
  rw [show crc ([] : List (List UInt8)).flatten = 0 by decide +kernel]
  go_wp2
  go_ret
  exact ⟨rfl, by repeat (first | exact Below.refl _ _ | apply bx_alloc | refine bx_trans ?_ (by assumption))⟩
end Go.Proofs.Ythhijbnmljndeaa
