
/- Chains: Verify of one size; of another number of hashes. -/
import Derived.Test.YtgaefejblmnklaaDoorChH
namespace Go.Proofs.YtgaefejblmnklaaDoor
open Go.RowKit
set_option linter.unusedVariables false
set_option maxRecDepth 10000 in
set_option maxHeartbeats 1000000 in
theorem Verify_more (w : World) (m p c : Nat) (A : Option Addr) (old now : List UInt8) (h1 : 1 ≤ m) (hm : m < 18446744073709551616) (hp : 1 ≤ p) :
    Calls Tryd.prog 16 #[.agg (kcell m old).toArray, .agg (kcell m now).toArray, .slice A p c] w fun e w' => e = .returned (.int .i64 20) ∧ Below w.heap.size w w' := by
  obtain ⟨n, hn⟩ : ∃ n, n = m := ⟨_, rfl⟩
  rw [show kcell m now = kcell n now by rw [hn]]
  have HNM := hid hn
  have hnn : n < 18446744073709551616 := by omega
  clear hn
  have hA : Blk ((w.alloc (.cells (kcell m old).toArray tKy)).alloc (.cells (kcell n now).toArray tKy)) w.heap.size tKy (kcell m old).toArray := (Blk.new w _ _).alloc _
  have hB : Blk ((w.alloc (.cells (kcell m old).toArray tKy)).alloc (.cells (kcell n now).toArray tKy)) (w.heap.size + 1) tKy (kcell n now).toArray := by
    have := Blk.new (w.alloc (.cells (kcell m old).toArray tKy)) tKy (kcell n now).toArray
    rwa [World.size_alloc] at this
  have hb0 : Below w.heap.size w ((w.alloc (.cells (kcell m old).toArray tKy)).alloc (.cells (kcell n now).toArray tKy)) := bx_alloc (bx_alloc (Below.refl _ _) _) _
  go_enter Tryd.func16, Tryd.ntmps16
  go_wp2_with fail
  generalize (w.alloc (.cells (kcell m old).toArray tKy)).alloc (.cells (kcell n now).toArray tKy) = w1 at *
  obtain ⟨g3, hg3⟩ : ∃ g3, g3 = w.heap.size := ⟨_, rfl⟩
  obtain ⟨g4, hg4⟩ : ∃ g4, g4 = w.heap.size + 1 := ⟨_, rfl⟩
  rw [← hg4] at hB ⊢
  rw [← hg3] at hA ⊢
  clear hg3 hg4
  refine wp_flow (by kernel_rfl) [0, 1, 0, 4, 3, 31] 5 [false, false, false, false, false, false, false, true, false, false, false, false, false, false, false, false, true, true, true, true] (by kernel_rfl) (by decide) (by kernel_rfl) [FP.eq (.pointer (some ⟨g3, 0, none⟩)), FP.eq (.int .u64 (m : Int)), FP.eq (.pointer (some ⟨g4, 0, none⟩)), FP.eq (.int .u64 (n : Int)), FP.eq (.int .u64 (m : Int))] ?_ ?_
  · refine allFrom_cons ?_ ?_
    · intro a_ w_ hk_
      have h3 : a_.eval (.tmp 3) = .pointer (some ⟨g3, 0, none⟩) := hk_.old 3 (by kernel_rfl)
      have hx_ := hk_.ext
      clear hk_
      refine flow_plain rfl ?_
      unfold gives
      have hc_ : ∀ v, a_.eval (.const v) = v := fun _ => rfl
      have hn_ : ∀ f, a_.eval (.func f) = .func (.func f) #[] #[] := fun _ => rfl
      generalize a_.eval = ρ_ at *
      go_simp
      exact ⟨Below.refl _ _, rfl⟩
    refine allFrom_cons ?_ ?_
    · intro a_ w_ hk_
      have h16 : a_.eval (.tmp 16) = (.pointer (some ⟨g3, 0, none⟩)) := hk_.got 0 16 _ (by kernel_rfl) rfl rfl
      have hx_ := hk_.ext
      clear hk_
      refine flow_plain rfl ?_
      unfold gives
      have hc_ : ∀ v, a_.eval (.const v) = v := fun _ => rfl
      have hn_ : ∀ f, a_.eval (.func f) = .func (.func f) #[] #[] := fun _ => rfl
      have hcell := kcell_size (hA.below hx_ hA.lt)
      generalize a_.eval = ρ_ at *
      go_simp
      exact ⟨Below.refl _ _, rfl⟩
    refine allFrom_cons ?_ ?_
    · intro a_ w_ hk_
      have h4 : a_.eval (.tmp 4) = .pointer (some ⟨g4, 0, none⟩) := hk_.old 4 (by kernel_rfl)
      have hx_ := hk_.ext
      clear hk_
      refine flow_plain rfl ?_
      unfold gives
      have hc_ : ∀ v, a_.eval (.const v) = v := fun _ => rfl
      have hn_ : ∀ f, a_.eval (.func f) = .func (.func f) #[] #[] := fun _ => rfl
      generalize a_.eval = ρ_ at *
      go_simp
      exact ⟨Below.refl _ _, rfl⟩
    refine allFrom_cons ?_ ?_
    · intro a_ w_ hk_
      have h18 : a_.eval (.tmp 18) = (.pointer (some ⟨g4, 0, none⟩)) := hk_.got 2 18 _ (by kernel_rfl) rfl rfl
      have hx_ := hk_.ext
      clear hk_
      refine flow_plain rfl ?_
      unfold gives
      have hc_ : ∀ v, a_.eval (.const v) = v := fun _ => rfl
      have hn_ : ∀ f, a_.eval (.func f) = .func (.func f) #[] #[] := fun _ => rfl
      have hcell := kcell_size (hB.below hx_ hB.lt)
      generalize a_.eval = ρ_ at *
      go_simp
      exact ⟨Below.refl _ _, rfl⟩
    refine allFrom_cons ?_ ?_
    · intro a_ w_ hk_
      have h17 : a_.eval (.tmp 17) = (.int .u64 (m : Int)) := hk_.got 1 17 _ (by kernel_rfl) rfl rfl
      have hx_ := hk_.ext
      clear hk_
      refine flow_plain rfl ?_
      exact gives_assign rfl ⟨Below.refl _ _, h17⟩
    exact allFrom_nil
  intro f_ w_ hx_ hf_
  have h16 : f_ 16 = (.pointer (some ⟨g3, 0, none⟩)) := hf_ 0 16 _ (by decide) rfl rfl
  have h17 : f_ 17 = (.int .u64 (m : Int)) := hf_ 1 17 _ (by decide) rfl rfl
  have h18 : f_ 18 = (.pointer (some ⟨g4, 0, none⟩)) := hf_ 2 18 _ (by decide) rfl rfl
  have h19 : f_ 19 = (.int .u64 (n : Int)) := hf_ 3 19 _ (by decide) rfl rfl
  have h7 : f_ 7 = (.int .u64 (m : Int)) := hf_ 4 7 _ (by decide) rfl rfl
  simp only [mix, List.drop_succ_cons, List.drop_zero, h16, h17, h18, h19, h7]
  clear h16 h17 h18 h19 h7
  clear hf_
  have hA1 := hA.below hx_ hA.lt
  have hB1 := hB.below hx_ hB.lt
  have hb1 := bx_trans hb0 hx_
  clear hA hB hb0 hx_
  obtain rfl := HNM.out
  go_wp2
  go_ret
  exact ⟨rfl, hb1⟩
set_option maxRecDepth 10000 in
set_option maxHeartbeats 1000000 in
theorem Verify_same (w : World) (m c : Nat) (A : Option Addr) (old now : List UInt8) (h1 : 1 ≤ m) (hm : m < 18446744073709551616) (ho : old.length = 32) (hw : now.length = 32) :
    Calls Tryd.prog 16 #[.agg (kcell m old).toArray, .agg (kcell m now).toArray, .slice A 0 c] w fun e w' => e = .returned (.int .i64 (if old = now then 0 else 20)) ∧ Below w.heap.size w w' := by
  obtain ⟨R, hR⟩ : ∃ R : Int, R = if old = now then 0 else 20 := ⟨_, rfl⟩
  rw [← hR]
  have HR := hid hR
  clear hR
  obtain ⟨n, hn⟩ : ∃ n, n = m := ⟨_, rfl⟩
  rw [show kcell m now = kcell n now by rw [hn]]
  have HNM := hid hn
  have hnn : n < 18446744073709551616 := by omega
  clear hn
  have hA : Blk ((w.alloc (.cells (kcell m old).toArray tKy)).alloc (.cells (kcell n now).toArray tKy)) w.heap.size tKy (kcell m old).toArray := (Blk.new w _ _).alloc _
  have hB : Blk ((w.alloc (.cells (kcell m old).toArray tKy)).alloc (.cells (kcell n now).toArray tKy)) (w.heap.size + 1) tKy (kcell n now).toArray := by
    have := Blk.new (w.alloc (.cells (kcell m old).toArray tKy)) tKy (kcell n now).toArray
    rwa [World.size_alloc] at this
  have hb0 : Below w.heap.size w ((w.alloc (.cells (kcell m old).toArray tKy)).alloc (.cells (kcell n now).toArray tKy)) := bx_alloc (bx_alloc (Below.refl _ _) _) _
  go_enter Tryd.func16, Tryd.ntmps16
  go_wp2_with fail
  generalize (w.alloc (.cells (kcell m old).toArray tKy)).alloc (.cells (kcell n now).toArray tKy) = w1 at *
  obtain ⟨g3, hg3⟩ : ∃ g3, g3 = w.heap.size := ⟨_, rfl⟩
  obtain ⟨g4, hg4⟩ : ∃ g4, g4 = w.heap.size + 1 := ⟨_, rfl⟩
  rw [← hg4] at hB ⊢
  rw [← hg3] at hA ⊢
  clear hg3 hg4
  refine wp_flow (by kernel_rfl) [0, 1, 0, 4, 3, 31] 5 [false, false, false, false, false, false, false, true, false, false, false, false, false, false, false, false, true, true, true, true] (by kernel_rfl) (by decide) (by kernel_rfl) [FP.eq (.pointer (some ⟨g3, 0, none⟩)), FP.eq (.int .u64 (m : Int)), FP.eq (.pointer (some ⟨g4, 0, none⟩)), FP.eq (.int .u64 (n : Int)), FP.eq (.int .u64 (m : Int))] ?_ ?_
  · refine allFrom_cons ?_ ?_
    · intro a_ w_ hk_
      have h3 : a_.eval (.tmp 3) = .pointer (some ⟨g3, 0, none⟩) := hk_.old 3 (by kernel_rfl)
      have hx_ := hk_.ext
      clear hk_
      refine flow_plain rfl ?_
      unfold gives
      have hc_ : ∀ v, a_.eval (.const v) = v := fun _ => rfl
      have hn_ : ∀ f, a_.eval (.func f) = .func (.func f) #[] #[] := fun _ => rfl
      generalize a_.eval = ρ_ at *
      go_simp
      exact ⟨Below.refl _ _, rfl⟩
    refine allFrom_cons ?_ ?_
    · intro a_ w_ hk_
      have h16 : a_.eval (.tmp 16) = (.pointer (some ⟨g3, 0, none⟩)) := hk_.got 0 16 _ (by kernel_rfl) rfl rfl
      have hx_ := hk_.ext
      clear hk_
      refine flow_plain rfl ?_
      unfold gives
      have hc_ : ∀ v, a_.eval (.const v) = v := fun _ => rfl
      have hn_ : ∀ f, a_.eval (.func f) = .func (.func f) #[] #[] := fun _ => rfl
      have hcell := kcell_size (hA.below hx_ hA.lt)
      generalize a_.eval = ρ_ at *
      go_simp
      exact ⟨Below.refl _ _, rfl⟩
    refine allFrom_cons ?_ ?_
    · intro a_ w_ hk_
      have h4 : a_.eval (.tmp 4) = .pointer (some ⟨g4, 0, none⟩) := hk_.old 4 (by kernel_rfl)
      have hx_ := hk_.ext
      clear hk_
      refine flow_plain rfl ?_
      unfold gives
      have hc_ : ∀ v, a_.eval (.const v) = v := fun _ => rfl
      have hn_ : ∀ f, a_.eval (.func f) = .func (.func f) #[] #[] := fun _ => rfl
      generalize a_.eval = ρ_ at *
      go_simp
      exact ⟨Below.refl _ _, rfl⟩
    refine allFrom_cons ?_ ?_
    · intro a_ w_ hk_
      have h18 : a_.eval (.tmp 18) = (.pointer (some ⟨g4, 0, none⟩)) := hk_.got 2 18 _ (by kernel_rfl) rfl rfl
      have hx_ := hk_.ext
      clear hk_
      refine flow_plain rfl ?_
      unfold gives
      have hc_ : ∀ v, a_.eval (.const v) = v := fun _ => rfl
      have hn_ : ∀ f, a_.eval (.func f) = .func (.func f) #[] #[] := fun _ => rfl
      have hcell := kcell_size (hB.below hx_ hB.lt)
      generalize a_.eval = ρ_ at *
      go_simp
      exact ⟨Below.refl _ _, rfl⟩
    refine allFrom_cons ?_ ?_
    · intro a_ w_ hk_
      have h17 : a_.eval (.tmp 17) = (.int .u64 (m : Int)) := hk_.got 1 17 _ (by kernel_rfl) rfl rfl
      have hx_ := hk_.ext
      clear hk_
      refine flow_plain rfl ?_
      exact gives_assign rfl ⟨Below.refl _ _, h17⟩
    exact allFrom_nil
  intro f_ w_ hx_ hf_
  have h16 : f_ 16 = (.pointer (some ⟨g3, 0, none⟩)) := hf_ 0 16 _ (by decide) rfl rfl
  have h17 : f_ 17 = (.int .u64 (m : Int)) := hf_ 1 17 _ (by decide) rfl rfl
  have h18 : f_ 18 = (.pointer (some ⟨g4, 0, none⟩)) := hf_ 2 18 _ (by decide) rfl rfl
  have h19 : f_ 19 = (.int .u64 (n : Int)) := hf_ 3 19 _ (by decide) rfl rfl
  have h7 : f_ 7 = (.int .u64 (m : Int)) := hf_ 4 7 _ (by decide) rfl rfl
  simp only [mix, List.drop_succ_cons, List.drop_zero, h16, h17, h18, h19, h7]
  clear h16 h17 h18 h19 h7
  clear hf_
  have hA1 := hA.below hx_ hA.lt
  have hB1 := hB.below hx_ hB.lt
  have hb1 := bx_trans hb0 hx_
  clear hA hB hb0 hx_
  have heq := eq_hash old now ho hw
  have hr3 := kcell_root hA1
  have hr4 := kcell_root hB1
  have hao := aggHL ho
  have han := aggHL hw
  by_cases hon : old = now
  · have HE : Hid (R = 0) := hid (by rw [HR.out, if_pos hon])
    rw [show (old == now) = true by simpa using hon] at heq
    have hlg := Long_any
    have HLG := hid hlg
    have hl0 : longN m m = 0 := by
      rw [longN_eq h1 (Nat.le_refl _), steps_no (by omega), whole_no (by omega)]
      rfl
    have HL0 := hid hl0
    clear hlg hl0 HR hon
    obtain rfl := HNM.out
    go_wp2_with (first
      | ((with_reducible refine wpAtC ?_); refine wpList_loadG rfl _ _ rfl _ _ rfl (old.map cb) hao hr3 ?_; simp only [Act.put, List.setIfInBounds_toArray, List.set_cons_succ, List.set_cons_zero])
      | ((with_reducible refine wpAtC ?_); refine wpList_loadG rfl _ _ rfl _ _ rfl (now.map cb) han hr4 ?_; simp only [Act.put, List.setIfInBounds_toArray, List.set_cons_succ, List.set_cons_zero]))
    clear heq
    refine (HLG.out w_ n n hm hm).mono ?_
    rintro e w5 ⟨rfl, hb5⟩
    rw [HL0.out]
    have hb05 := bx_trans hb1 hb5
    go_wp2
    go_ret
    exact ⟨by rw [HE.out]; rfl, hb05⟩
  · have HE : Hid (R = 20) := hid (by rw [HR.out, if_neg hon])
    rw [show (old == now) = false by simpa using hon] at heq
    clear HR hon
    obtain rfl := HNM.out
    go_wp2_with (first
      | ((with_reducible refine wpAtC ?_); refine wpList_loadG rfl _ _ rfl _ _ rfl (old.map cb) hao hr3 ?_; simp only [Act.put, List.setIfInBounds_toArray, List.set_cons_succ, List.set_cons_zero])
      | ((with_reducible refine wpAtC ?_); refine wpList_loadG rfl _ _ rfl _ _ rfl (now.map cb) han hr4 ?_; simp only [Act.put, List.setIfInBounds_toArray, List.set_cons_succ, List.set_cons_zero]))
    go_ret
    exact ⟨by rw [HE.out]; rfl, hb1⟩
set_option maxRecDepth 10000 in
set_option maxHeartbeats 1000000 in
theorem Verify_len (w : World) (m n p c : Nat) (A : Option Addr) (old now : List UInt8) (h1 : 1 ≤ m) (hmn : m < n) (hn : n < 18446744073709551616) (hp : p ≠ longN m n) (hpl : p ≤ 1000000) :
    Calls Tryd.prog 16 #[.agg (kcell m old).toArray, .agg (kcell n now).toArray, .slice A p c] w fun e w' => e = .returned (.int .i64 20) ∧ Below w.heap.size w w' := by
  have hlg : ∀ w', _ := fun w' => Long_any w' m n (by omega) hn
  have HLG := hid hlg
  have hm : m < 18446744073709551616 := by omega
  have hl64 := longN_le h1 (Nat.le_of_lt hmn) hn
  generalize longN m n = L at *
  clear hlg
  have hA : Blk ((w.alloc (.cells (kcell m old).toArray tKy)).alloc (.cells (kcell n now).toArray tKy)) w.heap.size tKy (kcell m old).toArray := (Blk.new w _ _).alloc _
  have hB : Blk ((w.alloc (.cells (kcell m old).toArray tKy)).alloc (.cells (kcell n now).toArray tKy)) (w.heap.size + 1) tKy (kcell n now).toArray := by
    have := Blk.new (w.alloc (.cells (kcell m old).toArray tKy)) tKy (kcell n now).toArray
    rwa [World.size_alloc] at this
  have hb0 : Below w.heap.size w ((w.alloc (.cells (kcell m old).toArray tKy)).alloc (.cells (kcell n now).toArray tKy)) := bx_alloc (bx_alloc (Below.refl _ _) _) _
  go_enter Tryd.func16, Tryd.ntmps16
  go_wp2_with fail
  generalize (w.alloc (.cells (kcell m old).toArray tKy)).alloc (.cells (kcell n now).toArray tKy) = w1 at *
  obtain ⟨g3, hg3⟩ : ∃ g3, g3 = w.heap.size := ⟨_, rfl⟩
  obtain ⟨g4, hg4⟩ : ∃ g4, g4 = w.heap.size + 1 := ⟨_, rfl⟩
  rw [← hg4] at hB ⊢
  rw [← hg3] at hA ⊢
  clear hg3 hg4
  refine wp_flow (by kernel_rfl) [0, 1, 0, 4, 3, 31] 5 [false, false, false, false, false, false, false, true, false, false, false, false, false, false, false, false, true, true, true, true] (by kernel_rfl) (by decide) (by kernel_rfl) [FP.eq (.pointer (some ⟨g3, 0, none⟩)), FP.eq (.int .u64 (m : Int)), FP.eq (.pointer (some ⟨g4, 0, none⟩)), FP.eq (.int .u64 (n : Int)), FP.eq (.int .u64 (m : Int))] ?_ ?_
  · refine allFrom_cons ?_ ?_
    · intro a_ w_ hk_
      have h3 : a_.eval (.tmp 3) = .pointer (some ⟨g3, 0, none⟩) := hk_.old 3 (by kernel_rfl)
      have hx_ := hk_.ext
      clear hk_
      refine flow_plain rfl ?_
      unfold gives
      have hc_ : ∀ v, a_.eval (.const v) = v := fun _ => rfl
      have hn_ : ∀ f, a_.eval (.func f) = .func (.func f) #[] #[] := fun _ => rfl
      generalize a_.eval = ρ_ at *
      go_simp
      exact ⟨Below.refl _ _, rfl⟩
    refine allFrom_cons ?_ ?_
    · intro a_ w_ hk_
      have h16 : a_.eval (.tmp 16) = (.pointer (some ⟨g3, 0, none⟩)) := hk_.got 0 16 _ (by kernel_rfl) rfl rfl
      have hx_ := hk_.ext
      clear hk_
      refine flow_plain rfl ?_
      unfold gives
      have hc_ : ∀ v, a_.eval (.const v) = v := fun _ => rfl
      have hn_ : ∀ f, a_.eval (.func f) = .func (.func f) #[] #[] := fun _ => rfl
      have hcell := kcell_size (hA.below hx_ hA.lt)
      generalize a_.eval = ρ_ at *
      go_simp
      exact ⟨Below.refl _ _, rfl⟩
    refine allFrom_cons ?_ ?_
    · intro a_ w_ hk_
      have h4 : a_.eval (.tmp 4) = .pointer (some ⟨g4, 0, none⟩) := hk_.old 4 (by kernel_rfl)
      have hx_ := hk_.ext
      clear hk_
      refine flow_plain rfl ?_
      unfold gives
      have hc_ : ∀ v, a_.eval (.const v) = v := fun _ => rfl
      have hn_ : ∀ f, a_.eval (.func f) = .func (.func f) #[] #[] := fun _ => rfl
      generalize a_.eval = ρ_ at *
      go_simp
      exact ⟨Below.refl _ _, rfl⟩
    refine allFrom_cons ?_ ?_
    · intro a_ w_ hk_
      have h18 : a_.eval (.tmp 18) = (.pointer (some ⟨g4, 0, none⟩)) := hk_.got 2 18 _ (by kernel_rfl) rfl rfl
      have hx_ := hk_.ext
      clear hk_
      refine flow_plain rfl ?_
      unfold gives
      have hc_ : ∀ v, a_.eval (.const v) = v := fun _ => rfl
      have hn_ : ∀ f, a_.eval (.func f) = .func (.func f) #[] #[] := fun _ => rfl
      have hcell := kcell_size (hB.below hx_ hB.lt)
      generalize a_.eval = ρ_ at *
      go_simp
      exact ⟨Below.refl _ _, rfl⟩
    refine allFrom_cons ?_ ?_
    · intro a_ w_ hk_
      have h17 : a_.eval (.tmp 17) = (.int .u64 (m : Int)) := hk_.got 1 17 _ (by kernel_rfl) rfl rfl
      have hx_ := hk_.ext
      clear hk_
      refine flow_plain rfl ?_
      exact gives_assign rfl ⟨Below.refl _ _, h17⟩
    exact allFrom_nil
  intro f_ w_ hx_ hf_
  have h16 : f_ 16 = (.pointer (some ⟨g3, 0, none⟩)) := hf_ 0 16 _ (by decide) rfl rfl
  have h17 : f_ 17 = (.int .u64 (m : Int)) := hf_ 1 17 _ (by decide) rfl rfl
  have h18 : f_ 18 = (.pointer (some ⟨g4, 0, none⟩)) := hf_ 2 18 _ (by decide) rfl rfl
  have h19 : f_ 19 = (.int .u64 (n : Int)) := hf_ 3 19 _ (by decide) rfl rfl
  have h7 : f_ 7 = (.int .u64 (m : Int)) := hf_ 4 7 _ (by decide) rfl rfl
  simp only [mix, List.drop_succ_cons, List.drop_zero, h16, h17, h18, h19, h7]
  clear h16 h17 h18 h19 h7
  clear hf_
  have hA1 := hA.below hx_ hA.lt
  have hB1 := hB.below hx_ hB.lt
  have hb1 := bx_trans hb0 hx_
  clear hA hB hb0 hx_
  go_wp2_with fail
  refine (HLG.out w_).mono ?_
  rintro e w5 ⟨rfl, hb5⟩
  have hb05 := bx_trans hb1 hb5
  have hne : ((p : Int) == (L : Int)) = false := by simp; omega
  go_wp2
  go_ret
  exact ⟨rfl, hb05⟩
end Go.Proofs.YtgaefejblmnklaaDoor
