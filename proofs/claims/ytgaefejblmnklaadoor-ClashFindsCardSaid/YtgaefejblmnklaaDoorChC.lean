
/- Chains: Long. -/
import Derived.Test.YtgaefejblmnklaaDoorChB
import Derived.Test.YtgaefejblmnklaaDoorChN
namespace Go.Proofs.YtgaefejblmnklaaDoor
open Go.RowKit
set_option linter.unusedVariables false
set_option maxRecDepth 10000 in
set_option maxHeartbeats 1000000 in
theorem Long_any (w : World) (m n : Nat) (hm : m < 18446744073709551616) (hn : n < 18446744073709551616) :
    Calls Tryd.prog 24 #[.int .u64 (m : Int), .int .u64 (n : Int)] w fun e w' => e = .returned (.int .i64 ((longN m n : Nat) : Int)) ∧ Below w.heap.size w w' := by
  by_cases h1 : m < 1
  · rw [longN_no (.inl h1)]
    go_enter Tryd.func24, Tryd.ntmps24
    go_wp2
    go_ret
    exact ⟨rfl, Below.refl _ _⟩
  by_cases h2 : n < m
  · rw [longN_no (.inr h2)]
    go_enter Tryd.func24, Tryd.ntmps24
    go_wp2
    go_ret
    exact ⟨rfl, Below.refl _ _⟩
  rw [longN_eq (by omega) (by omega)]
  have hsl := steps_len 64 n m (by omega)
  obtain ⟨L, hL⟩ : ∃ L, L = (steps m n).length := ⟨_, rfl⟩
  obtain ⟨W, hW⟩ : ∃ W, W = wholeN m n := ⟨_, rfl⟩
  rw [← hL] at hsl ⊢
  rw [← hW]
  obtain ⟨R, hR⟩ : ∃ R, R = L + if W = true then 0 else 1 := ⟨_, rfl⟩
  rw [← hR]
  have HR := hid hR
  clear hR
  have HL := hid hL
  have HW := hid hW
  clear hL hW
  go_enter Tryd.func24, Tryd.ntmps24
  go_wp2
  go_loopw [0, 1, 5, 6] (fun vm vn vc vw wr => ∃ (m' n' c : Nat) (b : Bool), 1 ≤ m' ∧ m' ≤ n' ∧ n' < 18446744073709551616 ∧ vm = .int .u64 m' ∧ vn = .int .u64 n' ∧ vc = .int .i64 c ∧ vw = .bool b ∧ L = c + (steps m' n').length ∧ W = (b && wholeN m' n') ∧ Below w.heap.size w wr) (fun vm vn _ _ _ => (intOf vn).toNat)
  case atStart => exact ⟨m, n, 0, true, by omega, by omega, hn, rfl, rfl, rfl, rfl, by rw [Nat.zero_add]; exact HL.out, by rw [Bool.true_and]; exact HW.out, Below.refl _ _⟩
  case round =>
    obtain ⟨m', n', c, b, k1, k2, k3, rfl, rfl, rfl, rfl, hc, hb, hbr⟩ := hrel
    by_cases hlt : m' < n'
    · have hsp := split_lt (n := n') (by omega)
      have hsp1 := split_pos (n := n') (by omega)
      have hpos := steps_pos k1 hlt
      by_cases hle : m' ≤ splitN n'
      · have hs := steps_true k1 hlt hle
        have hw := whole_true k1 hlt hle
        rw [hs, List.length_cons] at hc
        rw [hw] at hb
        have HC := hid hc
        have HB := hid hb
        have hcl : c ≤ 64 := by omega
        clear hc hb hs hw hpos
        go_wp2_with fail
        refine (Split_any wr n' k3).mono ?_
        rintro e w1 ⟨rfl, rfl⟩
        go_wp2
        go_roundw
        case rel => exact ⟨m', splitN n', c + 1, b, k1, hle, by omega, rfl, rfl, by go_num, rfl, by have := HC.out; omega, HB.out, hbr⟩
        case measure => simp [intOf]; omega
      · have hs := steps_false k1 hlt hle
        have hw := whole_false k1 hlt hle
        rw [hs, List.length_cons] at hc
        rw [hw, Bool.and_false] at hb
        have HC := hid hc
        have hcl : c ≤ 64 := by omega
        have e1 : IntKind.u64.wrap ((m' : Int) - (splitN n' : Nat)) = ((m' - splitN n' : Nat) : Int) := by simp only [IntKind.wrap, IntKind.bits, IntKind.signed]; simp; omega
        have e2 : IntKind.u64.wrap ((n' : Int) - (splitN n' : Nat)) = ((n' - splitN n' : Nat) : Int) := by simp only [IntKind.wrap, IntKind.bits, IntKind.signed]; simp; omega
        have HB := hid hb
        clear hc hs hw hpos hb
        go_wp2_with fail
        refine (Split_any wr n' k3).mono ?_
        rintro e w1 ⟨rfl, rfl⟩
        go_wp2
        go_roundw
        case rel => exact ⟨m' - splitN n', n' - splitN n', c + 1, false, by omega, by omega, by omega, rfl, rfl, by go_num, rfl, by have := HC.out; omega, by rw [Bool.false_and]; exact HB.out, hbr⟩
        case measure => simp [intOf]; omega
    · rw [steps_no (by omega)] at hc
      rw [whole_no (by omega), Bool.and_true] at hb
      have hc : L = c := hc
      have HB := hid hb
      have HC := hid hc
      have hcl : c ≤ 64 := by omega
      have h64 : IntKind.i64.wrap ((c : Int) + 1) = (c : Int) + 1 := wr_i64 _ (by omega) (by omega)
      clear hb hc HL HW hsl h1 h2 hm hn k1 k3
      cases b with
      | true =>
        go_wp2
        go_ret
        exact ⟨by rw [HR.out, HB.out, HC.out]; rfl, hbr⟩
      | false =>
        go_wp2
        go_ret
        exact ⟨by rw [HR.out, HB.out, HC.out]; rfl, hbr⟩
end Go.Proofs.YtgaefejblmnklaaDoor
