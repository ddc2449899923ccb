
/- The document's answer for frontiers: parts. -/
import Derived.Test.YtohkfnmggmlogaaDoorFrR
import Derived.Test.YtohkfnmggmlogaaDoorShaT
namespace Go.Proofs.YtohkfnmggmlogaaDoor
open Go.RowKit
set_option linter.unusedVariables false
abbrev tU : Nat := 22
def un (n : Nat) : Value := .int .u64 (n : Int)
theorem elU : ElT Tryd.prog 31 tU 1 8 (Value.int .u64 0).cells := elT_of Tryd.underlying31 (by kernel_rfl) rfl (by decide)
theorem one_un (l : List Nat) : ∀ u ∈ l.map un, u.oneCell' = true := by
  intro u hu
  obtain ⟨n, _, rfl⟩ := List.mem_map.1 hu
  rfl
/-- What a round of parts keeps. -/
def PtRel (w : World) (n : Nat) (v0 v3 v4 : Value) (wr : World) : Prop :=
  ∃ (x k kk m : Nat) (O : List Nat), v0 = .int .u64 (x : Int) ∧ v4 = .int .u64 (kk : Int) ∧ (0 < x → kk = k) ∧ partsR 1 n = O.reverse ++ partsR k x ∧ O.length = m ∧ m + ones x = ones n ∧ x * k ≤ n ∧ 0 < k ∧ wr.ownsRow w.heap.size tU 1 v3 m (O.map un) ∧ Below w.heap.size w wr
set_option maxRecDepth 10000 in
set_option maxHeartbeats 1000000 in
theorem rParts_any (w : World) (n : Nat) (hn : n < 18446744073709551616) :
    Calls Tryd.prog 26 #[.int .u64 (n : Int)] w fun e w' => ∃ v, e = .returned v ∧ w'.ownsRow w.heap.size tU 1 v (ones n) ((partsR 1 n).reverse.map un) ∧ Below w.heap.size w w' := by
  have h64 := ones_le 64 n hn
  go_enter Tryd.func26, Tryd.ntmps26
  go_wp2
  go_loopw [0, 3, 4] (fun v0 v3 v4 wr => PtRel w n v0 v3 v4 wr) (fun v0 _ _ _ => (intOf v0).toNat)
  case atStart => exact ⟨n, 1, 1, 0, [], rfl, rfl, fun _ => rfl, rfl, rfl, Nat.zero_add _, by omega, by decide, World.ownsRow_nil _ _ _ _, Below.refl _ _⟩
  case round =>
    obtain ⟨x, k, kk, m, O, rfl, rfl, hkk, hp, hO, hm, hxk, hkp, hown, hbr⟩ := hrel
    rename World => wr
    obtain ⟨Ao, co, rfl, hco, hcm, hrdo⟩ := own_form hown
    have hm64 : m ≤ 64 := by omega
    by_cases hx0 : x = 0
    · subst hx0
      rw [partsR_zero, List.append_nil] at hp
      rw [ones_zero, Nat.add_zero] at hm
      have HO := hid (show (partsR 1 n).reverse = O by rw [hp, List.reverse_reverse])
      have HM := hid hm
      have HOW := hid hown
      clear hp hm hown hrdo
      go_wp2
      go_ret
      exact ⟨_, rfl, by rw [HO.out, ← HM.out]; exact HOW.out, hbr⟩
    · obtain rfl := hkk (by omega)
      obtain ⟨q, hq⟩ : ∃ q, q = x / 2 := ⟨_, rfl⟩
      have hqd : (x : Int).tdiv 2 = (q : Int) := (Int.tdiv_eq_ediv_of_nonneg (by omega)).trans (by omega)
      have hoe := ones_eq x
      rw [← hq] at hoe
      have hxn : x ≤ n := Nat.le_trans (Nat.le_mul_of_pos_right x hkp) hxk
      have hqk : q * (2 * kk) ≤ n := by
        have h1 : q * 2 ≤ x := by omega
        have h2 := Nat.mul_le_mul_right kk h1
        rw [Nat.mul_assoc] at h2
        exact Nat.le_trans h2 hxk
      have hxp : (x : Int) > 0 := by omega
      have hm70 : (m : Int) < 70 := by omega
      obtain ⟨k2, hk2⟩ : ∃ k2 : Nat, IntKind.u64.wrap ((kk : Int) * 2) = (k2 : Int) ∧ (0 < q → k2 = 2 * kk) := by
        refine ⟨(kk * 2) % 18446744073709551616, ?_, fun h => ?_⟩
        · simp only [IntKind.wrap, IntKind.bits, IntKind.signed]; simp
        · have : 2 * kk ≤ q * (2 * kk) := Nat.le_mul_of_pos_left _ h
          omega
      have HK2 := hid hk2.2
      have hk2w := hk2.1
      clear hk2 hkk
      have hx64 : x < 18446744073709551616 := by omega
      have HM := hid hm
      have HQK := hid hqk
      have HO := hid hO
      have HKP := hid hkp
      rcases Nat.mod_two_eq_zero_or_one x with h2 | h2
      · have hrm : (x : Int).tmod 2 = 0 := (Int.tmod_eq_emod_of_nonneg (by omega)).trans (by omega)
        rw [partsR_even h2, ← hq] at hp
        rw [h2, Nat.zero_add] at hoe
        have HP := hid hp
        have hqx : q < x := by omega
        have HOE := hid hoe
        clear hp hq hoe hm hqk hO h2 hx0 hxk hkp hrdo
        go_wp2_with fail
        go_roundw
        case rel => exact ⟨q, 2 * kk, k2, m, O, by go_num, by go_num, HK2.out, HP.out, HO.out, by rw [← HOE.out]; exact HM.out, HQK.out, by have := HKP.out; omega, hown, hbr⟩
        case measure => simp only [intOf]; omega
      · have hrm : (x : Int).tmod 2 = 1 := (Int.tmod_eq_emod_of_nonneg (by omega)).trans (by omega)
        rw [partsR_odd h2, ← hq] at hp
        rw [h2] at hoe
        have HP := hid (show partsR 1 n = (kk :: O).reverse ++ partsR (2 * kk) q by rw [hp, List.reverse_cons, List.append_assoc]; rfl)
        have hqx : q < x := by omega
        have HOE := hid hoe
        have hbn : Below wr.heap.size wr (wr.alloc (.cells #[un kk] tU)) := bx_alloc (Below.refl _ _) _
        have hone : (wr.alloc (.cells #[un kk] tU)).ownsRow w.heap.size tU 1 (.slice (some ⟨wr.heap.size, 0, none⟩) 1 1) 1 [un kk] := ⟨rfl, .inr ⟨wr.heap.size, 1, _, rfl, hbr.size, heap_new rfl, Nat.le_refl _, by unfold maxLen; omega, rfl, rfl⟩⟩
        have hb2 := hbr.trans (hbn.mono hbr.size)
        have hrd2 := (own_rd hown).below hbn
        have hlo : (O.map un).length = m * 1 := by rw [List.length_map, hO, Nat.mul_one]
        have h63 : 1 + m ≤ maxLen := by unfold maxLen; omega
        have hby : (1 + m) * 8 ≤ 140737488355328 := by omega
        have hbs2 := hb2.size
        have HRD := hid hrd2
        have HOW := hid hone
        have HLO := hid hlo
        clear hp hq hoe hm hqk hO h2 hx0 hxk hkp hrdo hown hone hrd2 hlo
        unfold un at HOW
        go_wp2_with (at_builtin; refine wpList_app rfl _ _ _ rfl _ rfl _ _ _ rfl elU HOW.out HRD.out HLO.out (one_un _) h63 hby hbs2 ?_; intro v7 w7 hown7 hg7 hat7)
        go_roundw
        case rel => exact ⟨q, 2 * kk, k2, 1 + m, kk :: O, by go_num, by go_num, HK2.out, HP.out, by rw [List.length_cons, HO.out]; omega, by have := HM.out; have := HOE.out; omega, HQK.out, by have := HKP.out; omega, hown7, own_below hb2 HOW.out hg7⟩
        case measure => simp only [intOf]; omega
end Go.Proofs.YtohkfnmggmlogaaDoor
