
/- The document's answer for chains: Split, steps, Long. -/
import Derived.Test.YtjkolpioglpigaaDoorChV
namespace Go.Proofs.YtjkolpioglpigaaDoor
open Go.RowKit
set_option linter.unusedVariables false
def bv (b : Bool) : Value := .bool b
theorem elB : ElT Tryd.prog 54 4 1 1 (Value.bool false).cells := elT_of Tryd.underlying54 (by kernel_rfl) rfl (by decide)
theorem one_bv (l : List Bool) : ∀ u ∈ l.map bv, u.oneCell' = true := by
  intro u hu
  obtain ⟨x, _, rfl⟩ := List.mem_map.1 hu
  rfl
theorem nil_ownP (w : World) (base : Nat) (e : TypeId) (size : Nat) : w.ownsRow base e size (.slice none 0 0) 0 [] := ⟨by simp, .inl ⟨rfl, rfl⟩⟩
set_option maxRecDepth 10000 in
set_option maxHeartbeats 1000000 in
theorem rSplit_any (w : World) (n : Nat) (hn : n < 18446744073709551616) :
    Calls Tryd.prog 25 #[.int .u64 (n : Int)] w fun e w' => e = .returned (.int .u64 ((splitN n : Nat) : Int)) ∧ w' = w := by
  by_cases h2 : n < 2
  · have hs : splitN n = 0 := by unfold splitN; rw [if_pos h2]
    rw [hs]
    clear hs
    go_enter Tryd.func25, Tryd.ntmps25
    go_wp2
    go_ret
    exact ⟨rfl, rfl⟩
  · obtain ⟨R, hR⟩ : ∃ R, R = splitN n := ⟨_, rfl⟩
    rw [← hR]
    have HR := hid hR
    clear hR
    go_enter Tryd.func25, Tryd.ntmps25
    go_wp2
    go_loop [3] (fun v3 => ∃ j k : Nat, k = 2 ^ j ∧ k < n ∧ v3 = .int .u64 (k : Int)) (fun v3 => n - (intOf v3).toNat)
    case atStart => exact ⟨0, 1, rfl, by omega, rfl⟩
    case round =>
      obtain ⟨j, k, hk, hkn, rfl⟩ := hrel
      have hp := pow_succ2 j
      rw [← hk] at hp
      have hk1 : 1 ≤ k := by rw [hk]; exact pow_one_le j
      have HK := hid hk
      have HP := hid hp
      clear hk hp
      obtain ⟨d, hd⟩ : ∃ d : Nat, d = n - k := ⟨_, rfl⟩
      have hdi : (n : Int) - (k : Int) = (d : Int) := by omega
      by_cases hlt : k < d
      · have h2k : k * 2 < n := by omega
        have hwr : IntKind.u64.wrap ((k : Int) * 2) = ((k * 2 : Nat) : Int) := by simp only [IntKind.wrap, IntKind.bits, IntKind.signed]; simp; omega
        have HD := hid hd
        clear hd
        go_wp2
        go_round
        case rel => exact ⟨j + 1, k * 2, by rw [HP.out, Nat.mul_comm], h2k, by simp⟩
        case measure => simp [intOf]; omega
      · have hle : n ≤ 2 * k := by omega
        have HE : Hid (R = k) := hid (by rw [HR.out, HK.out]; exact split_eq (by rw [← HK.out]; exact hkn) (by rw [HP.out]; exact hle))
        clear hd
        go_wp2
        go_ret
        exact ⟨by rw [HE.out]; rfl, rfl⟩
def StepRet (w : World) (ds : List Bool) (wh : Bool) (e : Ending) (w' : World) : Prop := ∃ v, e = .returned (.tuple #[v, .bool wh]) ∧ w'.ownsRow w.heap.size 4 1 v ds.length (ds.map bv) ∧ Below w.heap.size w w'
set_option maxRecDepth 10000 in
set_option maxHeartbeats 1000000 in
theorem rsteps_any (w : World) (m n : Nat) (h1 : 1 ≤ m) (h2 : m ≤ n) (hn : n < 18446744073709551616) :
    Calls Tryd.prog 27 #[.int .u64 (m : Int), .int .u64 (n : Int)] w (StepRet w (steps m n) (wholeN m n)) := by
  have hsl := steps_len 64 n m (by omega)
  obtain ⟨D, hD⟩ : ∃ D, D = steps m n := ⟨_, rfl⟩
  obtain ⟨W, hW⟩ : ∃ W, W = wholeN m n := ⟨_, rfl⟩
  rw [← hD] at hsl ⊢
  rw [← hW]
  have HD := hid hD
  have HW := hid hW
  clear hD hW
  go_enter Tryd.func27, Tryd.ntmps27
  go_wp2
  go_loopw [0, 1, 6, 7] (fun v0 v1 v6 v7 wr => ∃ (m' n' : Nat) (P : List Bool) (b : Bool), 1 ≤ m' ∧ m' ≤ n' ∧ n' < 18446744073709551616 ∧ v0 = .int .u64 m' ∧ v1 = .int .u64 n' ∧ wr.ownsRow w.heap.size 4 1 v6 P.length (P.map bv) ∧ v7 = .bool b ∧ D = P ++ steps m' n' ∧ W = (b && wholeN m' n') ∧ Below w.heap.size w wr) (fun _ v1 _ _ _ => (intOf v1).toNat)
  case atStart => exact ⟨m, n, [], true, h1, h2, hn, rfl, rfl, nil_ownP _ _ _ _, rfl, by rw [List.nil_append]; exact HD.out, by rw [Bool.true_and]; exact HW.out, Below.refl _ _⟩
  case round =>
    obtain ⟨m', n', P, b, k1, k2, k3, rfl, rfl, hown, rfl, hD, hb, hbr⟩ := hrel
    rename World => wr
    obtain ⟨A6, c6, rfl, _, _, _⟩ := own_form hown
    have HO := hid hown
    have HB := hid hbr
    clear hown hbr
    by_cases hlt : m' < n'
    · have hsp := split_lt (n := n') (by omega)
      have hsp1 := split_pos (n := n') (by omega)
      have hpos := steps_pos k1 hlt
      have hPl : P.length < 70 := by
        have : D.length = P.length + (steps m' n').length := by rw [hD, List.length_append]
        omega
      have hPli : (P.length : Int) < 70 := by omega
      have HN := hid (fun w' => rSplit_any w' n' k3)
      have h63 : P.length + 1 ≤ maxLen := by unfold maxLen; omega
      have hby : (P.length + 1) * 1 ≤ 140737488355328 := by omega
      have hbs := HB.out.size
      by_cases hle : m' ≤ splitN n'
      · have hs := steps_true k1 hlt hle
        have hw := whole_true k1 hlt hle
        rw [hs] at hD
        rw [hw] at hb
        generalize splitN n' = s at *
        have HDD := hid hD
        have HBB := hid hb
        have hown1 := own_keep HO.out (bx_alloc (Below.refl _ wr) (.cells #[.bool true] 4))
        have hb1 := bx_alloc HB.out (.cells #[.bool true] 4)
        have rd1 := rd_of_row (w := wr.alloc (.cells #[.bool true] 4)) (heap_new rfl) (xs := [true].map bv) rfl
        have hbs1 := hb1.size
        have HO1 := hid hown1
        have HB1 := hid hb1
        have HR1 := hid rd1
        clear hD hb hs hw hpos hown1 hb1 rd1
        go_wp2_with fail
        refine (HN.out wr).mono ?_
        rintro e w5 ⟨rfl, rfl⟩
        go_wp2_with (at_builtin; refine wpList_app rfl _ _ _ rfl _ rfl _ _ _ rfl elB HO1.out HR1.out rfl (one_bv _) h63 hby hbs1 ?_; intro v7 w7 hown7 hg7 hat7)
        have HB7 := hid (own_below HB1.out HO1.out hg7)
        go_roundw
        case rel => exact ⟨m', s, P ++ [true], b, k1, hle, by omega, rfl, rfl, by rw [List.length_append, List.map_append]; exact hown7, rfl, by rw [List.append_assoc]; exact HDD.out, HBB.out, HB7.out⟩
        case measure => simp [intOf]; omega
      · have hs := steps_false k1 hlt hle
        have hw := whole_false k1 hlt hle
        rw [hs] at hD
        rw [hw, Bool.and_false] at hb
        generalize splitN n' = s at *
        have e1 : IntKind.u64.wrap ((m' : Int) - (s : Nat)) = ((m' - s : Nat) : Int) := by simp only [IntKind.wrap, IntKind.bits, IntKind.signed]; simp; omega
        have e2 : IntKind.u64.wrap ((n' : Int) - (s : Nat)) = ((n' - s : Nat) : Int) := by simp only [IntKind.wrap, IntKind.bits, IntKind.signed]; simp; omega
        have HDD := hid hD
        have HBB := hid hb
        have hown1 := own_keep HO.out (bx_alloc (Below.refl _ wr) (.cells #[.bool false] 4))
        have hb1 := bx_alloc HB.out (.cells #[.bool false] 4)
        have rd1 := rd_of_row (w := wr.alloc (.cells #[.bool false] 4)) (heap_new rfl) (xs := [false].map bv) rfl
        have hbs1 := hb1.size
        have HO1 := hid hown1
        have HB1 := hid hb1
        have HR1 := hid rd1
        clear hD hb hs hw hpos hown1 hb1 rd1
        go_wp2_with fail
        refine (HN.out wr).mono ?_
        rintro e w5 ⟨rfl, rfl⟩
        go_wp2_with (at_builtin; refine wpList_app rfl _ _ _ rfl _ rfl _ _ _ rfl elB HO1.out HR1.out rfl (one_bv _) h63 hby hbs1 ?_; intro v7 w7 hown7 hg7 hat7)
        have HB7 := hid (own_below HB1.out HO1.out hg7)
        go_roundw
        case rel => exact ⟨m' - s, n' - s, P ++ [false], false, by omega, by omega, by omega, rfl, rfl, by rw [List.length_append, List.map_append]; exact hown7, rfl, by rw [List.append_assoc]; exact HDD.out, by rw [Bool.false_and]; exact HBB.out, HB7.out⟩
        case measure => simp [intOf]; omega
    · rw [steps_no (by omega), List.append_nil] at hD
      rw [whole_no (by omega), Bool.and_true] at hb
      have HDD := hid hD
      have HBB := hid hb
      clear hD hb
      go_wp2
      go_ret2
      exact ⟨.slice A6 P.length c6, by rw [HBB.out]; rfl, by rw [HDD.out]; exact HO.out, HB.out⟩
set_option maxRecDepth 10000 in
set_option maxHeartbeats 1000000 in
theorem rLong_any (w : World) (m n : Nat) (hm : m < 18446744073709551616) (hn : n < 18446744073709551616) :
    Calls Tryd.prog 17 #[.int .u64 (m : Int), .int .u64 (n : Int)] w fun e w' => e = .returned (.int .i64 ((longN m n : Nat) : Int)) ∧ Below w.heap.size w w' := by
  by_cases h1 : m < 1
  · rw [longN_no (.inl h1)]
    go_enter Tryd.func17, Tryd.ntmps17
    go_wp2
    go_ret
    exact ⟨rfl, Below.refl _ _⟩
  by_cases h2 : n < m
  · rw [longN_no (.inr h2)]
    go_enter Tryd.func17, Tryd.ntmps17
    go_wp2
    go_ret
    exact ⟨rfl, Below.refl _ _⟩
  have hsl := steps_len 64 n m (by omega)
  have hlo := longN_eq (m := m) (n := n) (by omega) (by omega)
  have HS := hid (fun w' => rsteps_any w' m n (by omega) (by omega) hn)
  obtain ⟨R, hR⟩ : ∃ R, R = longN m n := ⟨_, rfl⟩
  rw [← hR] at hlo ⊢
  clear hR
  generalize steps m n = D at *
  have HLO := hid hlo
  clear hlo
  go_enter Tryd.func17, Tryd.ntmps17
  go_wp2_with fail
  refine (HS.out w).mono ?_
  rintro e w5 ⟨v, rfl, hown, hb⟩
  obtain ⟨A, c, rfl, _, _, _⟩ := own_form hown
  clear hown
  cases hwh : wholeN m n with
  | true =>
    have HE : Hid (R = D.length) := hid (by rw [HLO.out, hwh]; rfl)
    clear hwh HLO
    go_wp2
    go_ret
    exact ⟨by rw [HE.out]; rfl, hb⟩
  | false =>
    have HE : Hid (R = D.length + 1) := hid (by rw [HLO.out, hwh]; rfl)
    clear hwh HLO
    go_wp2
    go_ret
    exact ⟨by rw [HE.out]; rfl, hb⟩
end Go.Proofs.YtjkolpioglpigaaDoor
