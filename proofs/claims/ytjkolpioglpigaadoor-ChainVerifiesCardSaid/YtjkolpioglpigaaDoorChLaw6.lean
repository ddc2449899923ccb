
/- ChainVerifies: its walk. -/
import Derived.Test.YtjkolpioglpigaaDoorChL
import Derived.OpenShut
import Derived.Test.YtjkolpioglpigaaDoorChT
namespace Go.Proofs.YtjkolpioglpigaaDoor
open Go.RowKit
set_option linter.unusedVariables false
theorem splR (m : Nat) {o x : List UInt8} (ho : o.length = 32) (hx : x.length = 32) : spl (kcell m o).toArray 1 (x.map cb).toArray.toList = (kcell m x).toArray := by
  unfold spl kcell
  have : (Value.int IntKind.u64 (m : Int) :: o.map cb).drop (1 + (x.map cb).length) = [] := List.drop_eq_nil_of_le (by simp; omega)
  simp only [List.take_succ_cons, List.take_zero]
  rw [this]
  simp
theorem szR (m : Nat) {o x : List UInt8} (ho : o.length = 32) (hx : x.length = 32) : 1 + (x.map cb).toArray.size ≤ (kcell m o).toArray.size := by
  unfold kcell
  simp
  omega
theorem splY {y y2 : List UInt8} (hy : y.length = 32) (hy2 : y2.length = 32) : spl (y.map cb).toArray 0 (y2.map cb).toArray.toList = (y2.map cb).toArray := spl_whole (by simp [hy, hy2])
theorem szY {y y2 : List UInt8} (hy : y.length = 32) (hy2 : y2.length = 32) : 0 + (y2.map cb).toArray.size ≤ (y.map cb).toArray.size := by simp [hy, hy2]
set_option maxRecDepth 10000 in
set_option maxHeartbeats 4000000 in
theorem ChainVerifies_walk (w : World) (hL : LaidC w) (m : Nat) (hm : m < 18446744073709551616) (old : List UInt8) (ho : old.length = 32) (n : Nat) (hn : n < 18446744073709551616) (now : List UInt8) (hw : now.length = 32) (A : Option Addr) (c : Nat) (path : List (List UInt8)) (hc : path.length ≤ c) (hm9 : c ≤ maxLen) (hpa : ∀ x ∈ path, x.length = 32) (hr : Rd w w.heap.size A (path.flatten.map cb)) (a : Int) (hat : (Lit.int .u8 a).wf = true) :
    Calls Tryd.prog 4 #[.agg (kcell m old).toArray, .agg (kcell n now).toArray, .slice A path.length c, .int .u8 a] w fun e w' => e = .returned (.bool true) ∧ Below w.heap.size w w' := by
  have hab := bounds_u8 hat
  clear hat
  obtain ⟨p, hpl⟩ : ∃ p, path.length = p := ⟨_, rfl⟩
  rw [hpl] at hc ⊢
  have hc2 : c ≤ 9223372036854775807 := by unfold maxLen at hm9; omega
  have HL := hid hL
  have HR := hid hr
  have HPA := hid hpa
  clear hL hr hpa hm9
  have hA : Blk ((w.alloc (.cells (kcell m old).toArray tKy)).alloc (.cells (kcell n now).toArray tKy)) w.heap.size tKy (kcell m old).toArray := (Blk.new w _ _).alloc _
  have hB : Blk ((w.alloc (.cells (kcell m old).toArray tKy)).alloc (.cells (kcell n now).toArray tKy)) (w.heap.size + 1) tKy (kcell n now).toArray := by
    have := Blk.new (w.alloc (.cells (kcell m old).toArray tKy)) tKy (kcell n now).toArray
    rwa [World.size_alloc] at this
  have hb0 : Below w.heap.size w ((w.alloc (.cells (kcell m old).toArray tKy)).alloc (.cells (kcell n now).toArray tKy)) := bx_alloc (bx_alloc (Below.refl _ _) _) _
  go_enter Tryd.func4, Tryd.ntmps4
  generalize hC15 : Code.region 15 _ _ = C15
  have HC15 := hid hC15
  clear hC15
  generalize hC8 : Code.region 8 _ _ = C8
  have HC8 := hid hC8
  clear hC8
  go_wp2_with fail
  generalize (w.alloc (.cells (kcell m old).toArray tKy)).alloc (.cells (kcell n now).toArray tKy) = w0 at *
  obtain ⟨g4, hg4⟩ : ∃ g4, g4 = w.heap.size := ⟨_, rfl⟩
  obtain ⟨g5, hg5⟩ : ∃ g5, g5 = w.heap.size + 1 := ⟨_, rfl⟩
  rw [← hg5] at hB ⊢
  rw [← hg4] at hA ⊢
  have hg45 : g5 ≠ g4 := by omega
  have hs4 : w.heap.size ≤ g4 := by omega
  have hs5 : w.heap.size ≤ g5 := by omega
  clear hg4 hg5
  refine (chAwake w0 (HL.out.below hb0)).mono ?_
  rintro e w1 ⟨rfl, hb1⟩
  have hA1 := hA.below hb1 hA.lt
  have hB1 := hB.below hb1 hB.lt
  have hca := kcell_size hA1
  have hcb := kcell_size hB1
  have hra := kcell_root hA1
  have hao := aggHL ho
  have HB1 := hid (bx_trans hb0 hb1)
  clear hA hB hb0 hb1
  by_cases h70 : (70 : Int) < (p : Int)
  · go_wp2
    go_ret
    exact ⟨rfl, HB1.out⟩
  have hp6 : p ≤ 1000000 := by omega
  by_cases ha0 : 0 < a
  case neg =>
    go_wp2_with fail
    clear hca hcb hra hao
    obtain rfl := HC15.out
    clear HC15
    have hva := fun w' hL' hr' => Verify_any w' hL' m n p c A old now path hpl hm hn ho hw HPA.out hr' hc hc2 hp6
    have hvb := fun w' hr' => rVerify_any w' m n p c A old now path hpl hm hn ho hw HPA.out hr' hc hp6
    obtain ⟨V, hV⟩ : ∃ V, V = verL m n old now path := ⟨_, rfl⟩
    rw [← hV] at hva hvb
    have HVA := hid hva
    have HVB := hid hvb
    clear hV hva hvb
    have hka := aggKy m ho
    have hkb := aggKy n hw
    have HA_ := hid hA1
    have HB_ := hid hB1
    have hlt1 := hA1.lt
    have hlt2 := hB1.lt
    clear hA1 hB1
    refine wp_flow (by kernel_rfl) [0, 0, 0, 7, 0, 0, 0, 127, 255, 511] 10 [false, false, false, false, false, false, false, false, true, false, false, false, false, false, false, false, false, false, false, false, false, false, false, false, false, false, false, false, false, false, false, false, false, false, false, false, false, false, false, false, false, false, false, false, false, false, false, false, false, false, false, false, false, false, false, false, false, false, false, false, false, false, false, false, false, false, false, false, false, false, false, false, false, true, true, true, true, true, true, true, true, true] (by kernel_rfl) (by decide) (by kernel_rfl) [FP.eq (.agg (kcell m old).toArray), FP.eq (.agg (kcell n now).toArray), FP.eq (.slice A p c), FP.eq (.int .i64 V), FP.eq (.agg (kcell m old).toArray), FP.eq (.agg (kcell n now).toArray), FP.eq (.slice A p c), FP.eq (.int .i64 V), FP.eq (.bool true), FP.eq (.bool true)] ?_ ?_
    · refine allFrom_cons ?_ ?_
      · intro a_ w_ hk_
        have h4 : a_.eval (.tmp 4) = .pointer (some ⟨g4, 0, none⟩) := hk_.old 4 (by kernel_rfl)
        have hx_ := hk_.ext
        clear hk_
        refine flow_plain rfl ?_
        exact gives_ldC rfl h4 hka (blk_cells (HA_.out.below hx_ hlt1)) ⟨Below.refl _ _, rfl⟩
      refine allFrom_cons ?_ ?_
      · intro a_ w_ hk_
        have h5 : a_.eval (.tmp 5) = .pointer (some ⟨g5, 0, none⟩) := hk_.old 5 (by kernel_rfl)
        have hx_ := hk_.ext
        clear hk_
        refine flow_plain rfl ?_
        exact gives_ldC rfl h5 hkb (blk_cells (HB_.out.below hx_ hlt2)) ⟨Below.refl _ _, rfl⟩
      refine allFrom_cons ?_ ?_
      · intro a_ w_ hk_
        have h2 : a_.eval (.tmp 2) = .slice A p c := hk_.old 2 (by kernel_rfl)
        have hx_ := hk_.ext
        clear hk_
        refine flow_plain rfl ?_
        exact gives_move rfl ⟨Below.refl _ _, h2⟩
      refine allFrom_cons ?_ ?_
      · intro a_ w_ hk_
        have h73 : a_.eval (.tmp 73) = (.agg (kcell m old).toArray) := hk_.got 0 73 _ (by kernel_rfl) rfl rfl
        have h74 : a_.eval (.tmp 74) = (.agg (kcell n now).toArray) := hk_.got 1 74 _ (by kernel_rfl) rfl rfl
        have h75 : a_.eval (.tmp 75) = (.slice A p c) := hk_.got 2 75 _ (by kernel_rfl) rfl rfl
        have hx_ := hk_.ext
        clear hk_
        refine flow_plain rfl ?_
        unfold gives
        have hc_ : ∀ v, a_.eval (.const v) = v := fun _ => rfl
        have hn_ : ∀ f, a_.eval (.func f) = .func (.func f) #[] #[] := fun _ => rfl
        generalize a_.eval = ρ_ at *
        go_simp
        exact (HVA.out w_ (HL.out.below (bx_trans HB1.out hx_)) ((HR.out.below (bx_trans HB1.out hx_)).more (bx_trans HB1.out hx_).size)).mono fun e w' hh => ⟨_, hh.1, hh.2, rfl⟩
      refine allFrom_cons ?_ ?_
      · intro a_ w_ hk_
        have h4 : a_.eval (.tmp 4) = .pointer (some ⟨g4, 0, none⟩) := hk_.old 4 (by kernel_rfl)
        have hx_ := hk_.ext
        clear hk_
        refine flow_plain rfl ?_
        exact gives_ldC rfl h4 hka (blk_cells (HA_.out.below hx_ hlt1)) ⟨Below.refl _ _, rfl⟩
      refine allFrom_cons ?_ ?_
      · intro a_ w_ hk_
        have h5 : a_.eval (.tmp 5) = .pointer (some ⟨g5, 0, none⟩) := hk_.old 5 (by kernel_rfl)
        have hx_ := hk_.ext
        clear hk_
        refine flow_plain rfl ?_
        exact gives_ldC rfl h5 hkb (blk_cells (HB_.out.below hx_ hlt2)) ⟨Below.refl _ _, rfl⟩
      refine allFrom_cons ?_ ?_
      · intro a_ w_ hk_
        have h2 : a_.eval (.tmp 2) = .slice A p c := hk_.old 2 (by kernel_rfl)
        have hx_ := hk_.ext
        clear hk_
        refine flow_plain rfl ?_
        exact gives_move rfl ⟨Below.refl _ _, h2⟩
      refine allFrom_cons ?_ ?_
      · intro a_ w_ hk_
        have h77 : a_.eval (.tmp 77) = (.agg (kcell m old).toArray) := hk_.got 4 77 _ (by kernel_rfl) rfl rfl
        have h78 : a_.eval (.tmp 78) = (.agg (kcell n now).toArray) := hk_.got 5 78 _ (by kernel_rfl) rfl rfl
        have h79 : a_.eval (.tmp 79) = (.slice A p c) := hk_.got 6 79 _ (by kernel_rfl) rfl rfl
        have hx_ := hk_.ext
        clear hk_
        refine flow_plain rfl ?_
        unfold gives
        have hc_ : ∀ v, a_.eval (.const v) = v := fun _ => rfl
        have hn_ : ∀ f, a_.eval (.func f) = .func (.func f) #[] #[] := fun _ => rfl
        generalize a_.eval = ρ_ at *
        go_simp
        exact (HVB.out w_ ((HR.out.below (bx_trans HB1.out hx_)).more (bx_trans HB1.out hx_).size)).mono fun e w' hh => ⟨_, hh.1, hh.2, rfl⟩
      refine allFrom_cons ?_ ?_
      · intro a_ w_ hk_
        have h76 : a_.eval (.tmp 76) = (.int .i64 V) := hk_.got 3 76 _ (by kernel_rfl) rfl rfl
        have h80 : a_.eval (.tmp 80) = (.int .i64 V) := hk_.got 7 80 _ (by kernel_rfl) rfl rfl
        have hx_ := hk_.ext
        clear hk_
        refine flow_plain rfl ?_
        unfold gives
        have hc_ : ∀ v, a_.eval (.const v) = v := fun _ => rfl
        have hn_ : ∀ f, a_.eval (.func f) = .func (.func f) #[] #[] := fun _ => rfl
        generalize a_.eval = ρ_ at *
        go_simp
        exact ⟨Below.refl _ _, rfl⟩
      refine allFrom_cons ?_ ?_
      · intro a_ w_ hk_
        have h81 : a_.eval (.tmp 81) = (.bool true) := hk_.got 8 81 _ (by kernel_rfl) rfl rfl
        have hx_ := hk_.ext
        clear hk_
        refine flow_plain rfl ?_
        exact gives_assign rfl ⟨Below.refl _ _, h81⟩
      exact allFrom_nil
    intro f_ w_ hx_ hf_
    have h73 : f_ 73 = (.agg (kcell m old).toArray) := hf_ 0 73 _ (by decide) rfl rfl
    have h74 : f_ 74 = (.agg (kcell n now).toArray) := hf_ 1 74 _ (by decide) rfl rfl
    have h75 : f_ 75 = (.slice A p c) := hf_ 2 75 _ (by decide) rfl rfl
    have h76 : f_ 76 = (.int .i64 V) := hf_ 3 76 _ (by decide) rfl rfl
    have h77 : f_ 77 = (.agg (kcell m old).toArray) := hf_ 4 77 _ (by decide) rfl rfl
    have h78 : f_ 78 = (.agg (kcell n now).toArray) := hf_ 5 78 _ (by decide) rfl rfl
    have h79 : f_ 79 = (.slice A p c) := hf_ 6 79 _ (by decide) rfl rfl
    have h80 : f_ 80 = (.int .i64 V) := hf_ 7 80 _ (by decide) rfl rfl
    have h81 : f_ 81 = (.bool true) := hf_ 8 81 _ (by decide) rfl rfl
    have h8 : f_ 8 = (.bool true) := hf_ 9 8 _ (by decide) rfl rfl
    simp only [mix, List.drop_succ_cons, List.drop_zero, h73, h74, h75, h76, h77, h78, h79, h80, h81, h8]
    clear h73 h74 h75 h76 h77 h78 h79 h80 h81 h8
    clear hf_
    have HFF := hid (bx_trans HB1.out hx_)
    clear hx_
    go_wp2
    go_ret
    exact ⟨rfl, HFF.out⟩
  by_cases hm1 : (1 : Int) ≤ (m : Int)
  case neg =>
    go_wp2_with fail
    clear hca hcb hra hao
    obtain rfl := HC15.out
    clear HC15
    have hva := fun w' hL' hr' => Verify_any w' hL' m n p c A old now path hpl hm hn ho hw HPA.out hr' hc hc2 hp6
    have hvb := fun w' hr' => rVerify_any w' m n p c A old now path hpl hm hn ho hw HPA.out hr' hc hp6
    obtain ⟨V, hV⟩ : ∃ V, V = verL m n old now path := ⟨_, rfl⟩
    rw [← hV] at hva hvb
    have HVA := hid hva
    have HVB := hid hvb
    clear hV hva hvb
    have hka := aggKy m ho
    have hkb := aggKy n hw
    have HA_ := hid hA1
    have HB_ := hid hB1
    have hlt1 := hA1.lt
    have hlt2 := hB1.lt
    clear hA1 hB1
    refine wp_flow (by kernel_rfl) [0, 0, 0, 7, 0, 0, 0, 127, 255, 511] 10 [false, false, false, false, false, false, false, false, true, false, false, false, false, false, false, false, false, false, false, false, false, false, false, false, false, false, false, false, false, false, false, false, false, false, false, false, false, false, false, false, false, false, false, false, false, false, false, false, false, false, false, false, false, false, false, false, false, false, false, false, false, false, false, false, false, false, false, false, false, false, false, false, false, true, true, true, true, true, true, true, true, true] (by kernel_rfl) (by decide) (by kernel_rfl) [FP.eq (.agg (kcell m old).toArray), FP.eq (.agg (kcell n now).toArray), FP.eq (.slice A p c), FP.eq (.int .i64 V), FP.eq (.agg (kcell m old).toArray), FP.eq (.agg (kcell n now).toArray), FP.eq (.slice A p c), FP.eq (.int .i64 V), FP.eq (.bool true), FP.eq (.bool true)] ?_ ?_
    · refine allFrom_cons ?_ ?_
      · intro a_ w_ hk_
        have h4 : a_.eval (.tmp 4) = .pointer (some ⟨g4, 0, none⟩) := hk_.old 4 (by kernel_rfl)
        have hx_ := hk_.ext
        clear hk_
        refine flow_plain rfl ?_
        exact gives_ldC rfl h4 hka (blk_cells (HA_.out.below hx_ hlt1)) ⟨Below.refl _ _, rfl⟩
      refine allFrom_cons ?_ ?_
      · intro a_ w_ hk_
        have h5 : a_.eval (.tmp 5) = .pointer (some ⟨g5, 0, none⟩) := hk_.old 5 (by kernel_rfl)
        have hx_ := hk_.ext
        clear hk_
        refine flow_plain rfl ?_
        exact gives_ldC rfl h5 hkb (blk_cells (HB_.out.below hx_ hlt2)) ⟨Below.refl _ _, rfl⟩
      refine allFrom_cons ?_ ?_
      · intro a_ w_ hk_
        have h2 : a_.eval (.tmp 2) = .slice A p c := hk_.old 2 (by kernel_rfl)
        have hx_ := hk_.ext
        clear hk_
        refine flow_plain rfl ?_
        exact gives_move rfl ⟨Below.refl _ _, h2⟩
      refine allFrom_cons ?_ ?_
      · intro a_ w_ hk_
        have h73 : a_.eval (.tmp 73) = (.agg (kcell m old).toArray) := hk_.got 0 73 _ (by kernel_rfl) rfl rfl
        have h74 : a_.eval (.tmp 74) = (.agg (kcell n now).toArray) := hk_.got 1 74 _ (by kernel_rfl) rfl rfl
        have h75 : a_.eval (.tmp 75) = (.slice A p c) := hk_.got 2 75 _ (by kernel_rfl) rfl rfl
        have hx_ := hk_.ext
        clear hk_
        refine flow_plain rfl ?_
        unfold gives
        have hc_ : ∀ v, a_.eval (.const v) = v := fun _ => rfl
        have hn_ : ∀ f, a_.eval (.func f) = .func (.func f) #[] #[] := fun _ => rfl
        generalize a_.eval = ρ_ at *
        go_simp
        exact (HVA.out w_ (HL.out.below (bx_trans HB1.out hx_)) ((HR.out.below (bx_trans HB1.out hx_)).more (bx_trans HB1.out hx_).size)).mono fun e w' hh => ⟨_, hh.1, hh.2, rfl⟩
      refine allFrom_cons ?_ ?_
      · intro a_ w_ hk_
        have h4 : a_.eval (.tmp 4) = .pointer (some ⟨g4, 0, none⟩) := hk_.old 4 (by kernel_rfl)
        have hx_ := hk_.ext
        clear hk_
        refine flow_plain rfl ?_
        exact gives_ldC rfl h4 hka (blk_cells (HA_.out.below hx_ hlt1)) ⟨Below.refl _ _, rfl⟩
      refine allFrom_cons ?_ ?_
      · intro a_ w_ hk_
        have h5 : a_.eval (.tmp 5) = .pointer (some ⟨g5, 0, none⟩) := hk_.old 5 (by kernel_rfl)
        have hx_ := hk_.ext
        clear hk_
        refine flow_plain rfl ?_
        exact gives_ldC rfl h5 hkb (blk_cells (HB_.out.below hx_ hlt2)) ⟨Below.refl _ _, rfl⟩
      refine allFrom_cons ?_ ?_
      · intro a_ w_ hk_
        have h2 : a_.eval (.tmp 2) = .slice A p c := hk_.old 2 (by kernel_rfl)
        have hx_ := hk_.ext
        clear hk_
        refine flow_plain rfl ?_
        exact gives_move rfl ⟨Below.refl _ _, h2⟩
      refine allFrom_cons ?_ ?_
      · intro a_ w_ hk_
        have h77 : a_.eval (.tmp 77) = (.agg (kcell m old).toArray) := hk_.got 4 77 _ (by kernel_rfl) rfl rfl
        have h78 : a_.eval (.tmp 78) = (.agg (kcell n now).toArray) := hk_.got 5 78 _ (by kernel_rfl) rfl rfl
        have h79 : a_.eval (.tmp 79) = (.slice A p c) := hk_.got 6 79 _ (by kernel_rfl) rfl rfl
        have hx_ := hk_.ext
        clear hk_
        refine flow_plain rfl ?_
        unfold gives
        have hc_ : ∀ v, a_.eval (.const v) = v := fun _ => rfl
        have hn_ : ∀ f, a_.eval (.func f) = .func (.func f) #[] #[] := fun _ => rfl
        generalize a_.eval = ρ_ at *
        go_simp
        exact (HVB.out w_ ((HR.out.below (bx_trans HB1.out hx_)).more (bx_trans HB1.out hx_).size)).mono fun e w' hh => ⟨_, hh.1, hh.2, rfl⟩
      refine allFrom_cons ?_ ?_
      · intro a_ w_ hk_
        have h76 : a_.eval (.tmp 76) = (.int .i64 V) := hk_.got 3 76 _ (by kernel_rfl) rfl rfl
        have h80 : a_.eval (.tmp 80) = (.int .i64 V) := hk_.got 7 80 _ (by kernel_rfl) rfl rfl
        have hx_ := hk_.ext
        clear hk_
        refine flow_plain rfl ?_
        unfold gives
        have hc_ : ∀ v, a_.eval (.const v) = v := fun _ => rfl
        have hn_ : ∀ f, a_.eval (.func f) = .func (.func f) #[] #[] := fun _ => rfl
        generalize a_.eval = ρ_ at *
        go_simp
        exact ⟨Below.refl _ _, rfl⟩
      refine allFrom_cons ?_ ?_
      · intro a_ w_ hk_
        have h81 : a_.eval (.tmp 81) = (.bool true) := hk_.got 8 81 _ (by kernel_rfl) rfl rfl
        have hx_ := hk_.ext
        clear hk_
        refine flow_plain rfl ?_
        exact gives_assign rfl ⟨Below.refl _ _, h81⟩
      exact allFrom_nil
    intro f_ w_ hx_ hf_
    have h73 : f_ 73 = (.agg (kcell m old).toArray) := hf_ 0 73 _ (by decide) rfl rfl
    have h74 : f_ 74 = (.agg (kcell n now).toArray) := hf_ 1 74 _ (by decide) rfl rfl
    have h75 : f_ 75 = (.slice A p c) := hf_ 2 75 _ (by decide) rfl rfl
    have h76 : f_ 76 = (.int .i64 V) := hf_ 3 76 _ (by decide) rfl rfl
    have h77 : f_ 77 = (.agg (kcell m old).toArray) := hf_ 4 77 _ (by decide) rfl rfl
    have h78 : f_ 78 = (.agg (kcell n now).toArray) := hf_ 5 78 _ (by decide) rfl rfl
    have h79 : f_ 79 = (.slice A p c) := hf_ 6 79 _ (by decide) rfl rfl
    have h80 : f_ 80 = (.int .i64 V) := hf_ 7 80 _ (by decide) rfl rfl
    have h81 : f_ 81 = (.bool true) := hf_ 8 81 _ (by decide) rfl rfl
    have h8 : f_ 8 = (.bool true) := hf_ 9 8 _ (by decide) rfl rfl
    simp only [mix, List.drop_succ_cons, List.drop_zero, h73, h74, h75, h76, h77, h78, h79, h80, h81, h8]
    clear h73 h74 h75 h76 h77 h78 h79 h80 h81 h8
    clear hf_
    have HFF := hid (bx_trans HB1.out hx_)
    clear hx_
    go_wp2
    go_ret
    exact ⟨rfl, HFF.out⟩
  by_cases hmn : m ≤ n
  case neg =>
    go_wp2_with fail
    clear hca hcb hra hao
    obtain rfl := HC15.out
    clear HC15
    have hva := fun w' hL' hr' => Verify_any w' hL' m n p c A old now path hpl hm hn ho hw HPA.out hr' hc hc2 hp6
    have hvb := fun w' hr' => rVerify_any w' m n p c A old now path hpl hm hn ho hw HPA.out hr' hc hp6
    obtain ⟨V, hV⟩ : ∃ V, V = verL m n old now path := ⟨_, rfl⟩
    rw [← hV] at hva hvb
    have HVA := hid hva
    have HVB := hid hvb
    clear hV hva hvb
    have hka := aggKy m ho
    have hkb := aggKy n hw
    have HA_ := hid hA1
    have HB_ := hid hB1
    have hlt1 := hA1.lt
    have hlt2 := hB1.lt
    clear hA1 hB1
    refine wp_flow (by kernel_rfl) [0, 0, 0, 7, 0, 0, 0, 127, 255, 511] 10 [false, false, false, false, false, false, false, false, true, false, false, false, false, false, false, false, false, false, false, false, false, false, false, false, false, false, false, false, false, false, false, false, false, false, false, false, false, false, false, false, false, false, false, false, false, false, false, false, false, false, false, false, false, false, false, false, false, false, false, false, false, false, false, false, false, false, false, false, false, false, false, false, false, true, true, true, true, true, true, true, true, true] (by kernel_rfl) (by decide) (by kernel_rfl) [FP.eq (.agg (kcell m old).toArray), FP.eq (.agg (kcell n now).toArray), FP.eq (.slice A p c), FP.eq (.int .i64 V), FP.eq (.agg (kcell m old).toArray), FP.eq (.agg (kcell n now).toArray), FP.eq (.slice A p c), FP.eq (.int .i64 V), FP.eq (.bool true), FP.eq (.bool true)] ?_ ?_
    · refine allFrom_cons ?_ ?_
      · intro a_ w_ hk_
        have h4 : a_.eval (.tmp 4) = .pointer (some ⟨g4, 0, none⟩) := hk_.old 4 (by kernel_rfl)
        have hx_ := hk_.ext
        clear hk_
        refine flow_plain rfl ?_
        exact gives_ldC rfl h4 hka (blk_cells (HA_.out.below hx_ hlt1)) ⟨Below.refl _ _, rfl⟩
      refine allFrom_cons ?_ ?_
      · intro a_ w_ hk_
        have h5 : a_.eval (.tmp 5) = .pointer (some ⟨g5, 0, none⟩) := hk_.old 5 (by kernel_rfl)
        have hx_ := hk_.ext
        clear hk_
        refine flow_plain rfl ?_
        exact gives_ldC rfl h5 hkb (blk_cells (HB_.out.below hx_ hlt2)) ⟨Below.refl _ _, rfl⟩
      refine allFrom_cons ?_ ?_
      · intro a_ w_ hk_
        have h2 : a_.eval (.tmp 2) = .slice A p c := hk_.old 2 (by kernel_rfl)
        have hx_ := hk_.ext
        clear hk_
        refine flow_plain rfl ?_
        exact gives_move rfl ⟨Below.refl _ _, h2⟩
      refine allFrom_cons ?_ ?_
      · intro a_ w_ hk_
        have h73 : a_.eval (.tmp 73) = (.agg (kcell m old).toArray) := hk_.got 0 73 _ (by kernel_rfl) rfl rfl
        have h74 : a_.eval (.tmp 74) = (.agg (kcell n now).toArray) := hk_.got 1 74 _ (by kernel_rfl) rfl rfl
        have h75 : a_.eval (.tmp 75) = (.slice A p c) := hk_.got 2 75 _ (by kernel_rfl) rfl rfl
        have hx_ := hk_.ext
        clear hk_
        refine flow_plain rfl ?_
        unfold gives
        have hc_ : ∀ v, a_.eval (.const v) = v := fun _ => rfl
        have hn_ : ∀ f, a_.eval (.func f) = .func (.func f) #[] #[] := fun _ => rfl
        generalize a_.eval = ρ_ at *
        go_simp
        exact (HVA.out w_ (HL.out.below (bx_trans HB1.out hx_)) ((HR.out.below (bx_trans HB1.out hx_)).more (bx_trans HB1.out hx_).size)).mono fun e w' hh => ⟨_, hh.1, hh.2, rfl⟩
      refine allFrom_cons ?_ ?_
      · intro a_ w_ hk_
        have h4 : a_.eval (.tmp 4) = .pointer (some ⟨g4, 0, none⟩) := hk_.old 4 (by kernel_rfl)
        have hx_ := hk_.ext
        clear hk_
        refine flow_plain rfl ?_
        exact gives_ldC rfl h4 hka (blk_cells (HA_.out.below hx_ hlt1)) ⟨Below.refl _ _, rfl⟩
      refine allFrom_cons ?_ ?_
      · intro a_ w_ hk_
        have h5 : a_.eval (.tmp 5) = .pointer (some ⟨g5, 0, none⟩) := hk_.old 5 (by kernel_rfl)
        have hx_ := hk_.ext
        clear hk_
        refine flow_plain rfl ?_
        exact gives_ldC rfl h5 hkb (blk_cells (HB_.out.below hx_ hlt2)) ⟨Below.refl _ _, rfl⟩
      refine allFrom_cons ?_ ?_
      · intro a_ w_ hk_
        have h2 : a_.eval (.tmp 2) = .slice A p c := hk_.old 2 (by kernel_rfl)
        have hx_ := hk_.ext
        clear hk_
        refine flow_plain rfl ?_
        exact gives_move rfl ⟨Below.refl _ _, h2⟩
      refine allFrom_cons ?_ ?_
      · intro a_ w_ hk_
        have h77 : a_.eval (.tmp 77) = (.agg (kcell m old).toArray) := hk_.got 4 77 _ (by kernel_rfl) rfl rfl
        have h78 : a_.eval (.tmp 78) = (.agg (kcell n now).toArray) := hk_.got 5 78 _ (by kernel_rfl) rfl rfl
        have h79 : a_.eval (.tmp 79) = (.slice A p c) := hk_.got 6 79 _ (by kernel_rfl) rfl rfl
        have hx_ := hk_.ext
        clear hk_
        refine flow_plain rfl ?_
        unfold gives
        have hc_ : ∀ v, a_.eval (.const v) = v := fun _ => rfl
        have hn_ : ∀ f, a_.eval (.func f) = .func (.func f) #[] #[] := fun _ => rfl
        generalize a_.eval = ρ_ at *
        go_simp
        exact (HVB.out w_ ((HR.out.below (bx_trans HB1.out hx_)).more (bx_trans HB1.out hx_).size)).mono fun e w' hh => ⟨_, hh.1, hh.2, rfl⟩
      refine allFrom_cons ?_ ?_
      · intro a_ w_ hk_
        have h76 : a_.eval (.tmp 76) = (.int .i64 V) := hk_.got 3 76 _ (by kernel_rfl) rfl rfl
        have h80 : a_.eval (.tmp 80) = (.int .i64 V) := hk_.got 7 80 _ (by kernel_rfl) rfl rfl
        have hx_ := hk_.ext
        clear hk_
        refine flow_plain rfl ?_
        unfold gives
        have hc_ : ∀ v, a_.eval (.const v) = v := fun _ => rfl
        have hn_ : ∀ f, a_.eval (.func f) = .func (.func f) #[] #[] := fun _ => rfl
        generalize a_.eval = ρ_ at *
        go_simp
        exact ⟨Below.refl _ _, rfl⟩
      refine allFrom_cons ?_ ?_
      · intro a_ w_ hk_
        have h81 : a_.eval (.tmp 81) = (.bool true) := hk_.got 8 81 _ (by kernel_rfl) rfl rfl
        have hx_ := hk_.ext
        clear hk_
        refine flow_plain rfl ?_
        exact gives_assign rfl ⟨Below.refl _ _, h81⟩
      exact allFrom_nil
    intro f_ w_ hx_ hf_
    have h73 : f_ 73 = (.agg (kcell m old).toArray) := hf_ 0 73 _ (by decide) rfl rfl
    have h74 : f_ 74 = (.agg (kcell n now).toArray) := hf_ 1 74 _ (by decide) rfl rfl
    have h75 : f_ 75 = (.slice A p c) := hf_ 2 75 _ (by decide) rfl rfl
    have h76 : f_ 76 = (.int .i64 V) := hf_ 3 76 _ (by decide) rfl rfl
    have h77 : f_ 77 = (.agg (kcell m old).toArray) := hf_ 4 77 _ (by decide) rfl rfl
    have h78 : f_ 78 = (.agg (kcell n now).toArray) := hf_ 5 78 _ (by decide) rfl rfl
    have h79 : f_ 79 = (.slice A p c) := hf_ 6 79 _ (by decide) rfl rfl
    have h80 : f_ 80 = (.int .i64 V) := hf_ 7 80 _ (by decide) rfl rfl
    have h81 : f_ 81 = (.bool true) := hf_ 8 81 _ (by decide) rfl rfl
    have h8 : f_ 8 = (.bool true) := hf_ 9 8 _ (by decide) rfl rfl
    simp only [mix, List.drop_succ_cons, List.drop_zero, h73, h74, h75, h76, h77, h78, h79, h80, h81, h8]
    clear h73 h74 h75 h76 h77 h78 h79 h80 h81 h8
    clear hf_
    have HFF := hid (bx_trans HB1.out hx_)
    clear hx_
    go_wp2
    go_ret
    exact ⟨rfl, HFF.out⟩
  have h1 : 1 ≤ m := by omega
  have hrr : ∀ w', Below w.heap.size w w' → Rd w' w'.heap.size A (path.flatten.map cb) := fun w' hb => (HR.out.below hb).more hb.size
  obtain ⟨x, y, hx, hy, _, hcall⟩ := rMade_any w1 m n p c A old path hpl h1 hmn hn ho HPA.out (hrr w1 HB1.out) hc hp6
  have HRR := hid hrr
  have HCALL := hid hcall
  clear hcall hrr
  go_wp2_with (first
    | ((with_reducible refine wpAtC ?_); refine wpList_loadG rfl _ _ rfl _ _ rfl (old.map cb) hao hra ?_; simp only [Act.put, List.setIfInBounds_toArray, List.set_cons_succ, List.set_cons_zero]))
  refine (HCALL.out).mono ?_
  rintro e w2 ⟨rfl, hb2⟩
  have HB2 := hid (bx_trans HB1.out hb2)
  have hA2 := hA1.below hb2 hA1.lt
  have hB2 := hB1.below hb2 hB1.lt
  clear hra hca hcb hb2 hA1 hB1 HCALL HB1
  have hax := aggHS hx
  have hay := aggHS hy
  have hxl := aggHL hx
  have hyl := aggHL hy
  obtain ⟨b, hb⟩ : ∃ b, b = decide (p = longN m n) := ⟨_, rfl⟩
  rw [← hb]
  clear hb
  have hs2 := HB2.out.size
  go_wp2_with (first
    | ((with_reducible refine wpAtC ?_); refine wpList_alloc (w := w2) rfl _ rfl zeroH ?_; intro g10 w3 hg10 hg10' hzg10 hbg10; have hA3 := hA2.below hbg10 hA2.lt; have hB3 := hB2.below hbg10 hB2.lt; simp only [Act.put, List.setIfInBounds_toArray, List.set_cons_succ, List.set_cons_zero])
    | ((with_reducible refine wpAtC ?_); refine wpList_alloc (w := w3) rfl _ rfl zeroH ?_; intro g11 w4 hg11 hg11' hzg11 hbg11; have hA4 := hA3.below hbg11 hA3.lt; have hB4 := hB3.below hbg11 hB3.lt; have hz104 := hzg10.below hbg11 hg10'; simp only [Act.put, List.setIfInBounds_toArray, List.set_cons_succ, List.set_cons_zero])
    | ((with_reducible refine wpAtC ?_); refine wpList_store_agg rfl _ _ _ rfl _ _ rfl (x.map cb).toArray rfl hax hz104 (szH hx) (one_cbA _) ?_; intro w5 hpw5; simp only [Act.put]; rw [splH hx] at hpw5; have hz115 := hpw5.other hzg11 (show g11 ≠ g10 by omega); have hA5 := hpw5.other hA4 (by have := hA2.lt; omega); have hB5 := hpw5.other hB4 (by have := hB2.lt; omega))
    | ((with_reducible refine wpAtC ?_); refine wpList_store_agg rfl _ _ _ rfl _ _ rfl (y.map cb).toArray rfl hay hz115 (szH hy) (one_cbA _) ?_; intro w6 hpw6; simp only [Act.put]; rw [splH hy] at hpw6; have hX6 := hpw6.other hpw5.blk (show g10 ≠ g11 by omega); have hA6 := hpw6.other hA5 (by have := hA2.lt; omega); have hB6 := hpw6.other hB5 (by have := hB2.lt; omega)))
  have HB10 := hid (bx_put (bx_put (bx_trans (bx_trans HB2.out hbg10) hbg11) hpw5 (Nat.le_trans hs2 hg10)) hpw6 (by omega))
  have hlx := blk_cells hX6
  have hg10w : w.heap.size ≤ g10 := Nat.le_trans hs2 hg10
  have hg11w : w.heap.size ≤ g11 := by omega
  have hn4a : g4 ≠ g10 := by have := hA2.lt; omega
  have hn5a : g5 ≠ g10 := by have := hB2.lt; omega
  have hn4b : g4 ≠ g11 := by have := hA2.lt; omega
  have hn5b : g5 ≠ g11 := by have := hB2.lt; omega
  have hn10 : g10 ≠ g11 := by omega
  have hY6 := hpw6.blk
  clear hzg10 hbg10 hA3 hB3 hzg11 hbg11 hA4 hB4 hz104 hpw5 hz115 hA5 hB5 hpw6 hA2 hB2 HB2 hg10 hg10' hg11 hg11'
  obtain rfl := HC8.out
  clear HC8
  cases b with
  | false =>
    go_wp2_with fail
    clear hlx hX6 hY6
    obtain rfl := HC15.out
    clear HC15
    have hva := fun w' hL' hr' => Verify_any w' hL' m n p c A old now path hpl hm hn ho hw HPA.out hr' hc hc2 hp6
    have hvb := fun w' hr' => rVerify_any w' m n p c A old now path hpl hm hn ho hw HPA.out hr' hc hp6
    obtain ⟨V, hV⟩ : ∃ V, V = verL m n old now path := ⟨_, rfl⟩
    rw [← hV] at hva hvb
    have HVA := hid hva
    have HVB := hid hvb
    clear hV hva hvb
    have hka := aggKy m ho
    have hkb := aggKy n hw
    have HA_ := hid hA6
    have HB_ := hid hB6
    have hlt1 := hA6.lt
    have hlt2 := hB6.lt
    clear hA6 hB6
    refine wp_flow (by kernel_rfl) [0, 0, 0, 7, 0, 0, 0, 127, 255, 511] 10 [false, false, false, false, false, false, false, false, true, false, false, false, false, false, false, false, false, false, false, false, false, false, false, false, false, false, false, false, false, false, false, false, false, false, false, false, false, false, false, false, false, false, false, false, false, false, false, false, false, false, false, false, false, false, false, false, false, false, false, false, false, false, false, false, false, false, false, false, false, false, false, false, false, true, true, true, true, true, true, true, true, true] (by kernel_rfl) (by decide) (by kernel_rfl) [FP.eq (.agg (kcell m old).toArray), FP.eq (.agg (kcell n now).toArray), FP.eq (.slice A p c), FP.eq (.int .i64 V), FP.eq (.agg (kcell m old).toArray), FP.eq (.agg (kcell n now).toArray), FP.eq (.slice A p c), FP.eq (.int .i64 V), FP.eq (.bool true), FP.eq (.bool true)] ?_ ?_
    · refine allFrom_cons ?_ ?_
      · intro a_ w_ hk_
        have h4 : a_.eval (.tmp 4) = .pointer (some ⟨g4, 0, none⟩) := hk_.old 4 (by kernel_rfl)
        have hx_ := hk_.ext
        clear hk_
        refine flow_plain rfl ?_
        exact gives_ldC rfl h4 hka (blk_cells (HA_.out.below hx_ hlt1)) ⟨Below.refl _ _, rfl⟩
      refine allFrom_cons ?_ ?_
      · intro a_ w_ hk_
        have h5 : a_.eval (.tmp 5) = .pointer (some ⟨g5, 0, none⟩) := hk_.old 5 (by kernel_rfl)
        have hx_ := hk_.ext
        clear hk_
        refine flow_plain rfl ?_
        exact gives_ldC rfl h5 hkb (blk_cells (HB_.out.below hx_ hlt2)) ⟨Below.refl _ _, rfl⟩
      refine allFrom_cons ?_ ?_
      · intro a_ w_ hk_
        have h2 : a_.eval (.tmp 2) = .slice A p c := hk_.old 2 (by kernel_rfl)
        have hx_ := hk_.ext
        clear hk_
        refine flow_plain rfl ?_
        exact gives_move rfl ⟨Below.refl _ _, h2⟩
      refine allFrom_cons ?_ ?_
      · intro a_ w_ hk_
        have h73 : a_.eval (.tmp 73) = (.agg (kcell m old).toArray) := hk_.got 0 73 _ (by kernel_rfl) rfl rfl
        have h74 : a_.eval (.tmp 74) = (.agg (kcell n now).toArray) := hk_.got 1 74 _ (by kernel_rfl) rfl rfl
        have h75 : a_.eval (.tmp 75) = (.slice A p c) := hk_.got 2 75 _ (by kernel_rfl) rfl rfl
        have hx_ := hk_.ext
        clear hk_
        refine flow_plain rfl ?_
        unfold gives
        have hc_ : ∀ v, a_.eval (.const v) = v := fun _ => rfl
        have hn_ : ∀ f, a_.eval (.func f) = .func (.func f) #[] #[] := fun _ => rfl
        generalize a_.eval = ρ_ at *
        go_simp
        exact (HVA.out w_ (HL.out.below (bx_trans HB10.out hx_)) ((HR.out.below (bx_trans HB10.out hx_)).more (bx_trans HB10.out hx_).size)).mono fun e w' hh => ⟨_, hh.1, hh.2, rfl⟩
      refine allFrom_cons ?_ ?_
      · intro a_ w_ hk_
        have h4 : a_.eval (.tmp 4) = .pointer (some ⟨g4, 0, none⟩) := hk_.old 4 (by kernel_rfl)
        have hx_ := hk_.ext
        clear hk_
        refine flow_plain rfl ?_
        exact gives_ldC rfl h4 hka (blk_cells (HA_.out.below hx_ hlt1)) ⟨Below.refl _ _, rfl⟩
      refine allFrom_cons ?_ ?_
      · intro a_ w_ hk_
        have h5 : a_.eval (.tmp 5) = .pointer (some ⟨g5, 0, none⟩) := hk_.old 5 (by kernel_rfl)
        have hx_ := hk_.ext
        clear hk_
        refine flow_plain rfl ?_
        exact gives_ldC rfl h5 hkb (blk_cells (HB_.out.below hx_ hlt2)) ⟨Below.refl _ _, rfl⟩
      refine allFrom_cons ?_ ?_
      · intro a_ w_ hk_
        have h2 : a_.eval (.tmp 2) = .slice A p c := hk_.old 2 (by kernel_rfl)
        have hx_ := hk_.ext
        clear hk_
        refine flow_plain rfl ?_
        exact gives_move rfl ⟨Below.refl _ _, h2⟩
      refine allFrom_cons ?_ ?_
      · intro a_ w_ hk_
        have h77 : a_.eval (.tmp 77) = (.agg (kcell m old).toArray) := hk_.got 4 77 _ (by kernel_rfl) rfl rfl
        have h78 : a_.eval (.tmp 78) = (.agg (kcell n now).toArray) := hk_.got 5 78 _ (by kernel_rfl) rfl rfl
        have h79 : a_.eval (.tmp 79) = (.slice A p c) := hk_.got 6 79 _ (by kernel_rfl) rfl rfl
        have hx_ := hk_.ext
        clear hk_
        refine flow_plain rfl ?_
        unfold gives
        have hc_ : ∀ v, a_.eval (.const v) = v := fun _ => rfl
        have hn_ : ∀ f, a_.eval (.func f) = .func (.func f) #[] #[] := fun _ => rfl
        generalize a_.eval = ρ_ at *
        go_simp
        exact (HVB.out w_ ((HR.out.below (bx_trans HB10.out hx_)).more (bx_trans HB10.out hx_).size)).mono fun e w' hh => ⟨_, hh.1, hh.2, rfl⟩
      refine allFrom_cons ?_ ?_
      · intro a_ w_ hk_
        have h76 : a_.eval (.tmp 76) = (.int .i64 V) := hk_.got 3 76 _ (by kernel_rfl) rfl rfl
        have h80 : a_.eval (.tmp 80) = (.int .i64 V) := hk_.got 7 80 _ (by kernel_rfl) rfl rfl
        have hx_ := hk_.ext
        clear hk_
        refine flow_plain rfl ?_
        unfold gives
        have hc_ : ∀ v, a_.eval (.const v) = v := fun _ => rfl
        have hn_ : ∀ f, a_.eval (.func f) = .func (.func f) #[] #[] := fun _ => rfl
        generalize a_.eval = ρ_ at *
        go_simp
        exact ⟨Below.refl _ _, rfl⟩
      refine allFrom_cons ?_ ?_
      · intro a_ w_ hk_
        have h81 : a_.eval (.tmp 81) = (.bool true) := hk_.got 8 81 _ (by kernel_rfl) rfl rfl
        have hx_ := hk_.ext
        clear hk_
        refine flow_plain rfl ?_
        exact gives_assign rfl ⟨Below.refl _ _, h81⟩
      exact allFrom_nil
    intro f_ w_ hx_ hf_
    have h73 : f_ 73 = (.agg (kcell m old).toArray) := hf_ 0 73 _ (by decide) rfl rfl
    have h74 : f_ 74 = (.agg (kcell n now).toArray) := hf_ 1 74 _ (by decide) rfl rfl
    have h75 : f_ 75 = (.slice A p c) := hf_ 2 75 _ (by decide) rfl rfl
    have h76 : f_ 76 = (.int .i64 V) := hf_ 3 76 _ (by decide) rfl rfl
    have h77 : f_ 77 = (.agg (kcell m old).toArray) := hf_ 4 77 _ (by decide) rfl rfl
    have h78 : f_ 78 = (.agg (kcell n now).toArray) := hf_ 5 78 _ (by decide) rfl rfl
    have h79 : f_ 79 = (.slice A p c) := hf_ 6 79 _ (by decide) rfl rfl
    have h80 : f_ 80 = (.int .i64 V) := hf_ 7 80 _ (by decide) rfl rfl
    have h81 : f_ 81 = (.bool true) := hf_ 8 81 _ (by decide) rfl rfl
    have h8 : f_ 8 = (.bool true) := hf_ 9 8 _ (by decide) rfl rfl
    simp only [mix, List.drop_succ_cons, List.drop_zero, h73, h74, h75, h76, h77, h78, h79, h80, h81, h8]
    clear h73 h74 h75 h76 h77 h78 h79 h80 h81 h8
    clear hf_
    have HFF := hid (bx_trans HB10.out hx_)
    clear hx_
    go_wp2
    go_ret
    exact ⟨rfl, HFF.out⟩
  | true =>
    by_cases ha1 : 1 < a
    ·
      go_wp2_with (first
        | ((with_reducible refine wpAtC ?_); refine wpList_loadG rfl _ _ rfl _ _ rfl (x.map cb) hxl hlx ?_; simp only [Act.put, List.setIfInBounds_toArray, List.set_cons_succ, List.set_cons_zero])
        | ((with_reducible refine wpAtC ?_); refine wpList_store_agg rfl _ _ _ rfl _ _ rfl (x.map cb).toArray rfl hax hA6 (szR m ho hx) (one_cbA _) ?_; intro w7 hpw7; simp only [Act.put]; rw [splR m ho hx] at hpw7; have hA7 := hpw7.blk; have hB7 := hpw7.other hB6 hg45; have hY7 := hpw7.other hY6 (Ne.symm hn4b); have hca7 := kcell_size hA7; have hcb7 := kcell_size hB7; have hra7 := kcell_root hA7)
        | ((with_reducible refine wpAtC ?_); refine wpList_loadG rfl _ _ rfl _ _ rfl (x.map cb) hxl hra7 ?_; simp only [Act.put, List.setIfInBounds_toArray, List.set_cons_succ, List.set_cons_zero]))
      have HB11 := hid (bx_put HB10.out hpw7 hs4)
      clear hca7 hcb7 hra7 hpw7 hlx hX6 hA6 hB6 hY6
      obtain ⟨x2, y2, hx2, hy2, _, hcall2⟩ := rMade_any w7 m n p c A x path hpl h1 hmn hn hx HPA.out (HRR.out w7 HB11.out) hc hp6
      have HCALL2 := hid hcall2
      clear hcall2
      skip
      refine (HCALL2.out).mono ?_
      rintro e v2 ⟨rfl, hbv2⟩
      have HBV2 := hid (bx_trans HB11.out hbv2)
      have cA2 := hA7.below hbv2 hA7.lt
      have cB2 := hB7.below hbv2 hB7.lt
      have cY2 := hY7.below hbv2 hY7.lt
      have hax2 := aggHS hx2
      have hay2 := aggHS hy2
      have hxl2 := aggHL hx2
      have hyl2 := aggHL hy2
      have hsv := HBV2.out.size
      clear HCALL2 hbv2 hA7 hB7 hY7
      go_wp2_with (first
        | ((with_reducible refine wpAtC ?_); refine wpList_alloc (w := v2) rfl _ rfl zeroH ?_; intro g13 v3 hg13 hg13' hzg13 hbg13; have cA3 := cA2.below hbg13 cA2.lt; have cB3 := cB2.below hbg13 cB2.lt; have cY3 := cY2.below hbg13 cY2.lt; simp only [Act.put, List.setIfInBounds_toArray, List.set_cons_succ, List.set_cons_zero])
        | ((with_reducible refine wpAtC ?_); refine wpList_alloc (w := v3) rfl _ rfl zeroH ?_; intro g14 v4 hg14 hg14' hzg14 hbg14; have cA4 := cA3.below hbg14 cA3.lt; have cB4 := cB3.below hbg14 cB3.lt; have cY4 := cY3.below hbg14 cY3.lt; have hz134 := hzg13.below hbg14 hg13'; simp only [Act.put, List.setIfInBounds_toArray, List.set_cons_succ, List.set_cons_zero])
        | ((with_reducible refine wpAtC ?_); refine wpList_store_agg rfl _ _ _ rfl _ _ rfl (x2.map cb).toArray rfl hax2 hz134 (szH hx2) (one_cbA _) ?_; intro v5 hpv5; simp only [Act.put]; rw [splH hx2] at hpv5; have hz145 := hpv5.other hzg14 (show g14 ≠ g13 by omega); have cA5 := hpv5.other cA4 (by have := cA2.lt; omega); have cB5 := hpv5.other cB4 (by have := cB2.lt; omega); have cY5 := hpv5.other cY4 (by have := cY2.lt; omega))
        | ((with_reducible refine wpAtC ?_); refine wpList_store_agg rfl _ _ _ rfl _ _ rfl (y2.map cb).toArray rfl hay2 hz145 (szH hy2) (one_cbA _) ?_; intro v6 hpv6; simp only [Act.put]; rw [splH hy2] at hpv6; have cX6 := hpv6.other hpv5.blk (show g13 ≠ g14 by omega); have cA6 := hpv6.other cA5 (by have := cA2.lt; omega); have cB6 := hpv6.other cB5 (by have := cB2.lt; omega); have cY6 := hpv6.other cY5 (by have := cY2.lt; omega); have clx := blk_cells cX6)
        | ((with_reducible refine wpAtC ?_); refine wpList_loadG rfl _ _ rfl _ _ rfl (x2.map cb) hxl2 clx ?_; simp only [Act.put, List.setIfInBounds_toArray, List.set_cons_succ, List.set_cons_zero])
        | ((with_reducible refine wpAtC ?_); refine wpList_store_agg rfl _ _ _ rfl _ _ rfl (x2.map cb).toArray rfl hax2 cA6 (szR m hx hx2) (one_cbA _) ?_; intro v7 hpv7; simp only [Act.put]; rw [splR m hx hx2] at hpv7; have cA7 := hpv7.blk; have cB7 := hpv7.other cB6 hg45; have cY7 := hpv7.other cY6 (Ne.symm hn4b); have cly := blk_cells (hpv7.other hpv6.blk (by have := cA2.lt; omega)))
        | ((with_reducible refine wpAtC ?_); refine wpList_loadG rfl _ _ rfl _ _ rfl (y2.map cb) hyl2 cly ?_; simp only [Act.put, List.setIfInBounds_toArray, List.set_cons_succ, List.set_cons_zero])
        | ((with_reducible refine wpAtC ?_); refine wpList_store_agg rfl _ _ _ rfl _ _ rfl (y2.map cb).toArray rfl hay2 cY7 (szY hy hy2) (one_cbA _) ?_; intro v8 hpv8; simp only [Act.put]; rw [splY hy hy2] at hpv8; have cA8 := hpv8.other cA7 hn4b; have cB8 := hpv8.other cB7 hn5b; have clz := blk_cells hpv8.blk)
        | ((with_reducible refine wpAtC ?_); refine wpList_loadG rfl _ _ rfl _ _ rfl (y2.map cb) hyl2 clz ?_; simp only [Act.put, List.setIfInBounds_toArray, List.set_cons_succ, List.set_cons_zero])
        | ((with_reducible refine wpAtC ?_); refine wpList_store_agg rfl _ _ _ rfl _ _ rfl (y2.map cb).toArray rfl hay2 cB8 (szR n hw hy2) (one_cbA _) ?_; intro v9 hpv9; simp only [Act.put]; rw [splR n hw hy2] at hpv9; have cB9 := hpv9.blk; have cA9 := hpv9.other cA8 (Ne.symm hg45)))
      have HBV9 := hid (bx_put (bx_put (bx_put (bx_put (bx_put (bx_trans (bx_trans HBV2.out hbg13) hbg14) hpv5 (Nat.le_trans hsv hg13)) hpv6 (by omega)) hpv7 hs4) hpv8 hg11w) hpv9 hs5)
      clear clx cly clz cA2 cB2 cY2 cA3 cB3 cY3 cA4 cB4 cY4 cA5 cB5 cY5 cA6 cB6 cY6 cA7 cB7 cY7 cA8 cB8 cX6 hz134 hz145 hzg13 hzg14 hbg13 hbg14 hpv5 hpv6 hpv7 hpv8 hpv9 HBV2
      obtain rfl := HC15.out
      clear HC15
      have hva := fun w' hL' hr' => Verify_any w' hL' m n p c A x2 y2 path hpl hm hn hx2 hy2 HPA.out hr' hc hc2 hp6
      have hvb := fun w' hr' => rVerify_any w' m n p c A x2 y2 path hpl hm hn hx2 hy2 HPA.out hr' hc hp6
      obtain ⟨V, hV⟩ : ∃ V, V = verL m n x2 y2 path := ⟨_, rfl⟩
      rw [← hV] at hva hvb
      have HVA := hid hva
      have HVB := hid hvb
      clear hV hva hvb
      have hka := aggKy m hx2
      have hkb := aggKy n hy2
      have HA_ := hid cA9
      have HB_ := hid cB9
      have hlt1 := cA9.lt
      have hlt2 := cB9.lt
      clear cA9 cB9
      refine wp_flow (by kernel_rfl) [0, 0, 0, 7, 0, 0, 0, 127, 255, 511] 10 [false, false, false, false, false, false, false, false, true, false, false, false, false, false, false, false, false, false, false, false, false, false, false, false, false, false, false, false, false, false, false, false, false, false, false, false, false, false, false, false, false, false, false, false, false, false, false, false, false, false, false, false, false, false, false, false, false, false, false, false, false, false, false, false, false, false, false, false, false, false, false, false, false, true, true, true, true, true, true, true, true, true] (by kernel_rfl) (by decide) (by kernel_rfl) [FP.eq (.agg (kcell m x2).toArray), FP.eq (.agg (kcell n y2).toArray), FP.eq (.slice A p c), FP.eq (.int .i64 V), FP.eq (.agg (kcell m x2).toArray), FP.eq (.agg (kcell n y2).toArray), FP.eq (.slice A p c), FP.eq (.int .i64 V), FP.eq (.bool true), FP.eq (.bool true)] ?_ ?_
      · refine allFrom_cons ?_ ?_
        · intro a_ w_ hk_
          have h4 : a_.eval (.tmp 4) = .pointer (some ⟨g4, 0, none⟩) := hk_.old 4 (by kernel_rfl)
          have hx_ := hk_.ext
          clear hk_
          refine flow_plain rfl ?_
          exact gives_ldC rfl h4 hka (blk_cells (HA_.out.below hx_ hlt1)) ⟨Below.refl _ _, rfl⟩
        refine allFrom_cons ?_ ?_
        · intro a_ w_ hk_
          have h5 : a_.eval (.tmp 5) = .pointer (some ⟨g5, 0, none⟩) := hk_.old 5 (by kernel_rfl)
          have hx_ := hk_.ext
          clear hk_
          refine flow_plain rfl ?_
          exact gives_ldC rfl h5 hkb (blk_cells (HB_.out.below hx_ hlt2)) ⟨Below.refl _ _, rfl⟩
        refine allFrom_cons ?_ ?_
        · intro a_ w_ hk_
          have h2 : a_.eval (.tmp 2) = .slice A p c := hk_.old 2 (by kernel_rfl)
          have hx_ := hk_.ext
          clear hk_
          refine flow_plain rfl ?_
          exact gives_move rfl ⟨Below.refl _ _, h2⟩
        refine allFrom_cons ?_ ?_
        · intro a_ w_ hk_
          have h73 : a_.eval (.tmp 73) = (.agg (kcell m x2).toArray) := hk_.got 0 73 _ (by kernel_rfl) rfl rfl
          have h74 : a_.eval (.tmp 74) = (.agg (kcell n y2).toArray) := hk_.got 1 74 _ (by kernel_rfl) rfl rfl
          have h75 : a_.eval (.tmp 75) = (.slice A p c) := hk_.got 2 75 _ (by kernel_rfl) rfl rfl
          have hx_ := hk_.ext
          clear hk_
          refine flow_plain rfl ?_
          unfold gives
          have hc_ : ∀ v, a_.eval (.const v) = v := fun _ => rfl
          have hn_ : ∀ f, a_.eval (.func f) = .func (.func f) #[] #[] := fun _ => rfl
          generalize a_.eval = ρ_ at *
          go_simp
          exact (HVA.out w_ (HL.out.below (bx_trans HBV9.out hx_)) ((HR.out.below (bx_trans HBV9.out hx_)).more (bx_trans HBV9.out hx_).size)).mono fun e w' hh => ⟨_, hh.1, hh.2, rfl⟩
        refine allFrom_cons ?_ ?_
        · intro a_ w_ hk_
          have h4 : a_.eval (.tmp 4) = .pointer (some ⟨g4, 0, none⟩) := hk_.old 4 (by kernel_rfl)
          have hx_ := hk_.ext
          clear hk_
          refine flow_plain rfl ?_
          exact gives_ldC rfl h4 hka (blk_cells (HA_.out.below hx_ hlt1)) ⟨Below.refl _ _, rfl⟩
        refine allFrom_cons ?_ ?_
        · intro a_ w_ hk_
          have h5 : a_.eval (.tmp 5) = .pointer (some ⟨g5, 0, none⟩) := hk_.old 5 (by kernel_rfl)
          have hx_ := hk_.ext
          clear hk_
          refine flow_plain rfl ?_
          exact gives_ldC rfl h5 hkb (blk_cells (HB_.out.below hx_ hlt2)) ⟨Below.refl _ _, rfl⟩
        refine allFrom_cons ?_ ?_
        · intro a_ w_ hk_
          have h2 : a_.eval (.tmp 2) = .slice A p c := hk_.old 2 (by kernel_rfl)
          have hx_ := hk_.ext
          clear hk_
          refine flow_plain rfl ?_
          exact gives_move rfl ⟨Below.refl _ _, h2⟩
        refine allFrom_cons ?_ ?_
        · intro a_ w_ hk_
          have h77 : a_.eval (.tmp 77) = (.agg (kcell m x2).toArray) := hk_.got 4 77 _ (by kernel_rfl) rfl rfl
          have h78 : a_.eval (.tmp 78) = (.agg (kcell n y2).toArray) := hk_.got 5 78 _ (by kernel_rfl) rfl rfl
          have h79 : a_.eval (.tmp 79) = (.slice A p c) := hk_.got 6 79 _ (by kernel_rfl) rfl rfl
          have hx_ := hk_.ext
          clear hk_
          refine flow_plain rfl ?_
          unfold gives
          have hc_ : ∀ v, a_.eval (.const v) = v := fun _ => rfl
          have hn_ : ∀ f, a_.eval (.func f) = .func (.func f) #[] #[] := fun _ => rfl
          generalize a_.eval = ρ_ at *
          go_simp
          exact (HVB.out w_ ((HR.out.below (bx_trans HBV9.out hx_)).more (bx_trans HBV9.out hx_).size)).mono fun e w' hh => ⟨_, hh.1, hh.2, rfl⟩
        refine allFrom_cons ?_ ?_
        · intro a_ w_ hk_
          have h76 : a_.eval (.tmp 76) = (.int .i64 V) := hk_.got 3 76 _ (by kernel_rfl) rfl rfl
          have h80 : a_.eval (.tmp 80) = (.int .i64 V) := hk_.got 7 80 _ (by kernel_rfl) rfl rfl
          have hx_ := hk_.ext
          clear hk_
          refine flow_plain rfl ?_
          unfold gives
          have hc_ : ∀ v, a_.eval (.const v) = v := fun _ => rfl
          have hn_ : ∀ f, a_.eval (.func f) = .func (.func f) #[] #[] := fun _ => rfl
          generalize a_.eval = ρ_ at *
          go_simp
          exact ⟨Below.refl _ _, rfl⟩
        refine allFrom_cons ?_ ?_
        · intro a_ w_ hk_
          have h81 : a_.eval (.tmp 81) = (.bool true) := hk_.got 8 81 _ (by kernel_rfl) rfl rfl
          have hx_ := hk_.ext
          clear hk_
          refine flow_plain rfl ?_
          exact gives_assign rfl ⟨Below.refl _ _, h81⟩
        exact allFrom_nil
      intro f_ w_ hx_ hf_
      have h73 : f_ 73 = (.agg (kcell m x2).toArray) := hf_ 0 73 _ (by decide) rfl rfl
      have h74 : f_ 74 = (.agg (kcell n y2).toArray) := hf_ 1 74 _ (by decide) rfl rfl
      have h75 : f_ 75 = (.slice A p c) := hf_ 2 75 _ (by decide) rfl rfl
      have h76 : f_ 76 = (.int .i64 V) := hf_ 3 76 _ (by decide) rfl rfl
      have h77 : f_ 77 = (.agg (kcell m x2).toArray) := hf_ 4 77 _ (by decide) rfl rfl
      have h78 : f_ 78 = (.agg (kcell n y2).toArray) := hf_ 5 78 _ (by decide) rfl rfl
      have h79 : f_ 79 = (.slice A p c) := hf_ 6 79 _ (by decide) rfl rfl
      have h80 : f_ 80 = (.int .i64 V) := hf_ 7 80 _ (by decide) rfl rfl
      have h81 : f_ 81 = (.bool true) := hf_ 8 81 _ (by decide) rfl rfl
      have h8 : f_ 8 = (.bool true) := hf_ 9 8 _ (by decide) rfl rfl
      simp only [mix, List.drop_succ_cons, List.drop_zero, h73, h74, h75, h76, h77, h78, h79, h80, h81, h8]
      clear h73 h74 h75 h76 h77 h78 h79 h80 h81 h8
      clear hf_
      have HFF := hid (bx_trans HBV9.out hx_)
      clear hx_
      go_wp2
      go_ret
      exact ⟨rfl, HFF.out⟩
    ·
      have hca7 := kcell_size hA6
      have hcb7 := kcell_size hB6
      have hra7 := kcell_root hA6
      obtain ⟨x2, y2, hx2, hy2, _, hcall2⟩ := rMade_any w6 m n p c A old path hpl h1 hmn hn ho HPA.out (HRR.out w6 HB10.out) hc hp6
      have HCALL2 := hid hcall2
      clear hcall2
      go_wp2_with (first | ((with_reducible refine wpAtC ?_); refine wpList_loadG rfl _ _ rfl _ _ rfl (old.map cb) hao hra7 ?_; simp only [Act.put, List.setIfInBounds_toArray, List.set_cons_succ, List.set_cons_zero]))
      clear hca7 hcb7 hra7 hlx hX6
      refine (HCALL2.out).mono ?_
      rintro e v2 ⟨rfl, hbv2⟩
      have HBV2 := hid (bx_trans HB10.out hbv2)
      have cA2 := hA6.below hbv2 hA6.lt
      have cB2 := hB6.below hbv2 hB6.lt
      have cY2 := hY6.below hbv2 hY6.lt
      have hax2 := aggHS hx2
      have hay2 := aggHS hy2
      have hxl2 := aggHL hx2
      have hyl2 := aggHL hy2
      have hsv := HBV2.out.size
      clear HCALL2 hbv2 hA6 hB6 hY6
      go_wp2_with (first
        | ((with_reducible refine wpAtC ?_); refine wpList_alloc (w := v2) rfl _ rfl zeroH ?_; intro g13 v3 hg13 hg13' hzg13 hbg13; have cA3 := cA2.below hbg13 cA2.lt; have cB3 := cB2.below hbg13 cB2.lt; have cY3 := cY2.below hbg13 cY2.lt; simp only [Act.put, List.setIfInBounds_toArray, List.set_cons_succ, List.set_cons_zero])
        | ((with_reducible refine wpAtC ?_); refine wpList_alloc (w := v3) rfl _ rfl zeroH ?_; intro g14 v4 hg14 hg14' hzg14 hbg14; have cA4 := cA3.below hbg14 cA3.lt; have cB4 := cB3.below hbg14 cB3.lt; have cY4 := cY3.below hbg14 cY3.lt; have hz134 := hzg13.below hbg14 hg13'; simp only [Act.put, List.setIfInBounds_toArray, List.set_cons_succ, List.set_cons_zero])
        | ((with_reducible refine wpAtC ?_); refine wpList_store_agg rfl _ _ _ rfl _ _ rfl (x2.map cb).toArray rfl hax2 hz134 (szH hx2) (one_cbA _) ?_; intro v5 hpv5; simp only [Act.put]; rw [splH hx2] at hpv5; have hz145 := hpv5.other hzg14 (show g14 ≠ g13 by omega); have cA5 := hpv5.other cA4 (by have := cA2.lt; omega); have cB5 := hpv5.other cB4 (by have := cB2.lt; omega); have cY5 := hpv5.other cY4 (by have := cY2.lt; omega))
        | ((with_reducible refine wpAtC ?_); refine wpList_store_agg rfl _ _ _ rfl _ _ rfl (y2.map cb).toArray rfl hay2 hz145 (szH hy2) (one_cbA _) ?_; intro v6 hpv6; simp only [Act.put]; rw [splH hy2] at hpv6; have cX6 := hpv6.other hpv5.blk (show g13 ≠ g14 by omega); have cA6 := hpv6.other cA5 (by have := cA2.lt; omega); have cB6 := hpv6.other cB5 (by have := cB2.lt; omega); have cY6 := hpv6.other cY5 (by have := cY2.lt; omega); have clx := blk_cells cX6)
        | ((with_reducible refine wpAtC ?_); refine wpList_loadG rfl _ _ rfl _ _ rfl (x2.map cb) hxl2 clx ?_; simp only [Act.put, List.setIfInBounds_toArray, List.set_cons_succ, List.set_cons_zero])
        | ((with_reducible refine wpAtC ?_); refine wpList_store_agg rfl _ _ _ rfl _ _ rfl (x2.map cb).toArray rfl hax2 cA6 (szR m ho hx2) (one_cbA _) ?_; intro v7 hpv7; simp only [Act.put]; rw [splR m ho hx2] at hpv7; have cA7 := hpv7.blk; have cB7 := hpv7.other cB6 hg45; have cY7 := hpv7.other cY6 (Ne.symm hn4b); have cly := blk_cells (hpv7.other hpv6.blk (by have := cA2.lt; omega)))
        | ((with_reducible refine wpAtC ?_); refine wpList_loadG rfl _ _ rfl _ _ rfl (y2.map cb) hyl2 cly ?_; simp only [Act.put, List.setIfInBounds_toArray, List.set_cons_succ, List.set_cons_zero])
        | ((with_reducible refine wpAtC ?_); refine wpList_store_agg rfl _ _ _ rfl _ _ rfl (y2.map cb).toArray rfl hay2 cY7 (szY hy hy2) (one_cbA _) ?_; intro v8 hpv8; simp only [Act.put]; rw [splY hy hy2] at hpv8; have cA8 := hpv8.other cA7 hn4b; have cB8 := hpv8.other cB7 hn5b; have clz := blk_cells hpv8.blk)
        | ((with_reducible refine wpAtC ?_); refine wpList_loadG rfl _ _ rfl _ _ rfl (y2.map cb) hyl2 clz ?_; simp only [Act.put, List.setIfInBounds_toArray, List.set_cons_succ, List.set_cons_zero])
        | ((with_reducible refine wpAtC ?_); refine wpList_store_agg rfl _ _ _ rfl _ _ rfl (y2.map cb).toArray rfl hay2 cB8 (szR n hw hy2) (one_cbA _) ?_; intro v9 hpv9; simp only [Act.put]; rw [splR n hw hy2] at hpv9; have cB9 := hpv9.blk; have cA9 := hpv9.other cA8 (Ne.symm hg45)))
      have HBV9 := hid (bx_put (bx_put (bx_put (bx_put (bx_put (bx_trans (bx_trans HBV2.out hbg13) hbg14) hpv5 (Nat.le_trans hsv hg13)) hpv6 (by omega)) hpv7 hs4) hpv8 hg11w) hpv9 hs5)
      clear clx cly clz cA2 cB2 cY2 cA3 cB3 cY3 cA4 cB4 cY4 cA5 cB5 cY5 cA6 cB6 cY6 cA7 cB7 cY7 cA8 cB8 cX6 hz134 hz145 hzg13 hzg14 hbg13 hbg14 hpv5 hpv6 hpv7 hpv8 hpv9 HBV2
      obtain rfl := HC15.out
      clear HC15
      have hva := fun w' hL' hr' => Verify_any w' hL' m n p c A x2 y2 path hpl hm hn hx2 hy2 HPA.out hr' hc hc2 hp6
      have hvb := fun w' hr' => rVerify_any w' m n p c A x2 y2 path hpl hm hn hx2 hy2 HPA.out hr' hc hp6
      obtain ⟨V, hV⟩ : ∃ V, V = verL m n x2 y2 path := ⟨_, rfl⟩
      rw [← hV] at hva hvb
      have HVA := hid hva
      have HVB := hid hvb
      clear hV hva hvb
      have hka := aggKy m hx2
      have hkb := aggKy n hy2
      have HA_ := hid cA9
      have HB_ := hid cB9
      have hlt1 := cA9.lt
      have hlt2 := cB9.lt
      clear cA9 cB9
      refine wp_flow (by kernel_rfl) [0, 0, 0, 7, 0, 0, 0, 127, 255, 511] 10 [false, false, false, false, false, false, false, false, true, false, false, false, false, false, false, false, false, false, false, false, false, false, false, false, false, false, false, false, false, false, false, false, false, false, false, false, false, false, false, false, false, false, false, false, false, false, false, false, false, false, false, false, false, false, false, false, false, false, false, false, false, false, false, false, false, false, false, false, false, false, false, false, false, true, true, true, true, true, true, true, true, true] (by kernel_rfl) (by decide) (by kernel_rfl) [FP.eq (.agg (kcell m x2).toArray), FP.eq (.agg (kcell n y2).toArray), FP.eq (.slice A p c), FP.eq (.int .i64 V), FP.eq (.agg (kcell m x2).toArray), FP.eq (.agg (kcell n y2).toArray), FP.eq (.slice A p c), FP.eq (.int .i64 V), FP.eq (.bool true), FP.eq (.bool true)] ?_ ?_
      · refine allFrom_cons ?_ ?_
        · intro a_ w_ hk_
          have h4 : a_.eval (.tmp 4) = .pointer (some ⟨g4, 0, none⟩) := hk_.old 4 (by kernel_rfl)
          have hx_ := hk_.ext
          clear hk_
          refine flow_plain rfl ?_
          exact gives_ldC rfl h4 hka (blk_cells (HA_.out.below hx_ hlt1)) ⟨Below.refl _ _, rfl⟩
        refine allFrom_cons ?_ ?_
        · intro a_ w_ hk_
          have h5 : a_.eval (.tmp 5) = .pointer (some ⟨g5, 0, none⟩) := hk_.old 5 (by kernel_rfl)
          have hx_ := hk_.ext
          clear hk_
          refine flow_plain rfl ?_
          exact gives_ldC rfl h5 hkb (blk_cells (HB_.out.below hx_ hlt2)) ⟨Below.refl _ _, rfl⟩
        refine allFrom_cons ?_ ?_
        · intro a_ w_ hk_
          have h2 : a_.eval (.tmp 2) = .slice A p c := hk_.old 2 (by kernel_rfl)
          have hx_ := hk_.ext
          clear hk_
          refine flow_plain rfl ?_
          exact gives_move rfl ⟨Below.refl _ _, h2⟩
        refine allFrom_cons ?_ ?_
        · intro a_ w_ hk_
          have h73 : a_.eval (.tmp 73) = (.agg (kcell m x2).toArray) := hk_.got 0 73 _ (by kernel_rfl) rfl rfl
          have h74 : a_.eval (.tmp 74) = (.agg (kcell n y2).toArray) := hk_.got 1 74 _ (by kernel_rfl) rfl rfl
          have h75 : a_.eval (.tmp 75) = (.slice A p c) := hk_.got 2 75 _ (by kernel_rfl) rfl rfl
          have hx_ := hk_.ext
          clear hk_
          refine flow_plain rfl ?_
          unfold gives
          have hc_ : ∀ v, a_.eval (.const v) = v := fun _ => rfl
          have hn_ : ∀ f, a_.eval (.func f) = .func (.func f) #[] #[] := fun _ => rfl
          generalize a_.eval = ρ_ at *
          go_simp
          exact (HVA.out w_ (HL.out.below (bx_trans HBV9.out hx_)) ((HR.out.below (bx_trans HBV9.out hx_)).more (bx_trans HBV9.out hx_).size)).mono fun e w' hh => ⟨_, hh.1, hh.2, rfl⟩
        refine allFrom_cons ?_ ?_
        · intro a_ w_ hk_
          have h4 : a_.eval (.tmp 4) = .pointer (some ⟨g4, 0, none⟩) := hk_.old 4 (by kernel_rfl)
          have hx_ := hk_.ext
          clear hk_
          refine flow_plain rfl ?_
          exact gives_ldC rfl h4 hka (blk_cells (HA_.out.below hx_ hlt1)) ⟨Below.refl _ _, rfl⟩
        refine allFrom_cons ?_ ?_
        · intro a_ w_ hk_
          have h5 : a_.eval (.tmp 5) = .pointer (some ⟨g5, 0, none⟩) := hk_.old 5 (by kernel_rfl)
          have hx_ := hk_.ext
          clear hk_
          refine flow_plain rfl ?_
          exact gives_ldC rfl h5 hkb (blk_cells (HB_.out.below hx_ hlt2)) ⟨Below.refl _ _, rfl⟩
        refine allFrom_cons ?_ ?_
        · intro a_ w_ hk_
          have h2 : a_.eval (.tmp 2) = .slice A p c := hk_.old 2 (by kernel_rfl)
          have hx_ := hk_.ext
          clear hk_
          refine flow_plain rfl ?_
          exact gives_move rfl ⟨Below.refl _ _, h2⟩
        refine allFrom_cons ?_ ?_
        · intro a_ w_ hk_
          have h77 : a_.eval (.tmp 77) = (.agg (kcell m x2).toArray) := hk_.got 4 77 _ (by kernel_rfl) rfl rfl
          have h78 : a_.eval (.tmp 78) = (.agg (kcell n y2).toArray) := hk_.got 5 78 _ (by kernel_rfl) rfl rfl
          have h79 : a_.eval (.tmp 79) = (.slice A p c) := hk_.got 6 79 _ (by kernel_rfl) rfl rfl
          have hx_ := hk_.ext
          clear hk_
          refine flow_plain rfl ?_
          unfold gives
          have hc_ : ∀ v, a_.eval (.const v) = v := fun _ => rfl
          have hn_ : ∀ f, a_.eval (.func f) = .func (.func f) #[] #[] := fun _ => rfl
          generalize a_.eval = ρ_ at *
          go_simp
          exact (HVB.out w_ ((HR.out.below (bx_trans HBV9.out hx_)).more (bx_trans HBV9.out hx_).size)).mono fun e w' hh => ⟨_, hh.1, hh.2, rfl⟩
        refine allFrom_cons ?_ ?_
        · intro a_ w_ hk_
          have h76 : a_.eval (.tmp 76) = (.int .i64 V) := hk_.got 3 76 _ (by kernel_rfl) rfl rfl
          have h80 : a_.eval (.tmp 80) = (.int .i64 V) := hk_.got 7 80 _ (by kernel_rfl) rfl rfl
          have hx_ := hk_.ext
          clear hk_
          refine flow_plain rfl ?_
          unfold gives
          have hc_ : ∀ v, a_.eval (.const v) = v := fun _ => rfl
          have hn_ : ∀ f, a_.eval (.func f) = .func (.func f) #[] #[] := fun _ => rfl
          generalize a_.eval = ρ_ at *
          go_simp
          exact ⟨Below.refl _ _, rfl⟩
        refine allFrom_cons ?_ ?_
        · intro a_ w_ hk_
          have h81 : a_.eval (.tmp 81) = (.bool true) := hk_.got 8 81 _ (by kernel_rfl) rfl rfl
          have hx_ := hk_.ext
          clear hk_
          refine flow_plain rfl ?_
          exact gives_assign rfl ⟨Below.refl _ _, h81⟩
        exact allFrom_nil
      intro f_ w_ hx_ hf_
      have h73 : f_ 73 = (.agg (kcell m x2).toArray) := hf_ 0 73 _ (by decide) rfl rfl
      have h74 : f_ 74 = (.agg (kcell n y2).toArray) := hf_ 1 74 _ (by decide) rfl rfl
      have h75 : f_ 75 = (.slice A p c) := hf_ 2 75 _ (by decide) rfl rfl
      have h76 : f_ 76 = (.int .i64 V) := hf_ 3 76 _ (by decide) rfl rfl
      have h77 : f_ 77 = (.agg (kcell m x2).toArray) := hf_ 4 77 _ (by decide) rfl rfl
      have h78 : f_ 78 = (.agg (kcell n y2).toArray) := hf_ 5 78 _ (by decide) rfl rfl
      have h79 : f_ 79 = (.slice A p c) := hf_ 6 79 _ (by decide) rfl rfl
      have h80 : f_ 80 = (.int .i64 V) := hf_ 7 80 _ (by decide) rfl rfl
      have h81 : f_ 81 = (.bool true) := hf_ 8 81 _ (by decide) rfl rfl
      have h8 : f_ 8 = (.bool true) := hf_ 9 8 _ (by decide) rfl rfl
      simp only [mix, List.drop_succ_cons, List.drop_zero, h73, h74, h75, h76, h77, h78, h79, h80, h81, h8]
      clear h73 h74 h75 h76 h77 h78 h79 h80 h81 h8
      clear hf_
      have HFF := hid (bx_trans HBV9.out hx_)
      clear hx_
      go_wp2
      go_ret
      exact ⟨rfl, HFF.out⟩
end Go.Proofs.YtjkolpioglpigaaDoor
