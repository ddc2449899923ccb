
/- ShaOf: its walk. -/
import Derived.Test.YtebabkccpbdphaaDoorShaU
namespace Go.Proofs.YtebabkccpbdphaaDoor
open Go.RowKit
set_option linter.unusedVariables false
set_option maxRecDepth 100000 in
set_option maxHeartbeats 2000000 in
theorem ShaOf_walk (w : World) (hL : Laid w) (A0 : Option Addr) (c0 : Nat) (l0 : List UInt8) (hc0 : l0.length ≤ c0) (hm0 : c0 ≤ maxLen) (hr0 : Rd w w.heap.size A0 (l0.map cb)) (x : List UInt8) (hx : x.length = 32) (y : List UInt8) (hy : y.length = 32) :
    Calls Tryd.prog 6 #[.slice A0 l0.length c0, .agg (x.map cb).toArray, .agg (y.map cb).toArray] w fun e w' => e = .returned (.bool true) ∧ Below w.heap.size w w' := by
  unfold maxLen at hm0
  have HL := hid hL
  have HR := hid hr0
  clear hL hr0
  have hA : Blk ((w.alloc (.cells (x.map cb).toArray tH)).alloc (.cells (y.map cb).toArray tH)) w.heap.size tH (x.map cb).toArray := (Blk.new w _ _).alloc _
  have hB : Blk ((w.alloc (.cells (x.map cb).toArray tH)).alloc (.cells (y.map cb).toArray tH)) (w.heap.size + 1) tH (y.map cb).toArray := by
    have := Blk.new (w.alloc (.cells (x.map cb).toArray tH)) tH (y.map cb).toArray
    rwa [World.size_alloc] at this
  have hb0 : Below w.heap.size w ((w.alloc (.cells (x.map cb).toArray tH)).alloc (.cells (y.map cb).toArray tH)) := bx_alloc (bx_alloc (Below.refl _ _) _) _
  go_enter Tryd.func6, Tryd.ntmps6
  generalize hC7 : Code.region 7 _ _ = C7
  have HC7 := hid hC7
  clear hC7
  go_wp2_with fail
  generalize (w.alloc (.cells (x.map cb).toArray tH)).alloc (.cells (y.map cb).toArray tH) = wb at *
  obtain ⟨g4, hg4⟩ : ∃ g4, g4 = w.heap.size := ⟨_, rfl⟩
  obtain ⟨g5, hg5⟩ : ∃ g5, g5 = w.heap.size + 1 := ⟨_, rfl⟩
  rw [← hg5] at hB ⊢
  rw [← hg4] at hA ⊢
  clear hg4 hg5
  refine (awake_any wb (HL.out.below hb0)).mono ?_
  rintro e w1 ⟨rfl, hb1⟩
  have hA1 := hA.below hb1 hA.lt
  have hB1 := hB.below hb1 hB.lt
  have hb01 := bx_trans hb0 hb1
  clear hA hB hb0 hb1
  by_cases hbig : 300 < l0.length
  · go_wp2
    go_ret
    exact ⟨rfl, hb01⟩
  have hcv := conv_str (P := Tryd.prog) (src := 22) (dst := 9) (l := l0) Tryd.underlying22 Tryd.underlying5 Tryd.underlying9 c0 (HR.out.below hb01)
  go_wp2_with fail
  obtain rfl := HC7.out
  clear HC7 hcv
  have HB01 := hid hb01
  have hax := aggHL hx
  have hay := aggHL hy
  have E1 := hid (eq_hash (shaL l0) (shaL l0) (shaL_length _) (shaL_length _))
  have E2 := hid (eq_hash (shaL (0 :: l0)) (shaL (0 :: l0)) (shaL_length _) (shaL_length _))
  have E3 := hid (eq_hash (shaL (1 :: (x ++ y))) (shaL (1 :: (x ++ y))) (shaL_length _) (shaL_length _))
  have HO := hid (fun (w' : World) hL' A c B' (hr : RdBB w' B' A [l0]) hB' => (Of_any w' hL' (A := A) (c := c) hr hB' (by simp) (by simp; omega)))
  obtain ⟨H1, hH1⟩ : ∃ H1, H1 = shaL l0 := ⟨_, rfl⟩
  obtain ⟨H2, hH2⟩ : ∃ H2, H2 = shaL (0 :: l0) := ⟨_, rfl⟩
  obtain ⟨H3, hH3⟩ : ∃ H3, H3 = shaL (1 :: (x ++ y)) := ⟨_, rfl⟩
  obtain ⟨T4, hT4⟩ : ∃ T4, T4 = textL x := ⟨_, rfl⟩
  rw [← hH1] at E1
  rw [← hH2] at E2
  rw [← hH3] at E3
  have K1 := hid hH1
  have K2 := hid hH2
  have K3 := hid hH3
  have K4 := hid hT4
  clear hH1 hH2 hH3 hT4 hb01
  refine wp_flow (by kernel_rfl) [0, 1, 3, 0, 15, 31, 63, 127, 255, 127, 1023, 2047, 4095, 8191, 16383, 16383, 65535, 16383, 16383, 524287, 1048575, 2097151, 4194303, 8388607, 16777215, 8388607, 67108863, 134217727, 268435455, 536870911] 29 [false, false, false, false, false, false, false, false, false, false, false, false, false, false, false, false, false, true, true, true, true, true, true, true, true, true, true, true, true, true, true, true, true, true, true, true, true, true, true, true, true, true, true, true, true, true] (by kernel_rfl) (by decide) (by kernel_rfl) [FP.eq (.slice A0 l0.length c0), FP.rows [l0], FP.eq (.agg (H1.map cb).toArray), FP.eq (.string ⟨l0.toArray⟩), FP.eq (.agg (H1.map cb).toArray), FP.eq (.bool true), FP.eq (.bool true), FP.eq (.slice A0 l0.length c0), FP.eq (.agg (H2.map cb).toArray), FP.eq (.string ⟨l0.toArray⟩), FP.eq (.agg (H2.map cb).toArray), FP.eq (.bool true), FP.eq (.bool true), FP.eq (.bool true), FP.eq (.agg (x.map cb).toArray), FP.eq (.agg (y.map cb).toArray), FP.eq (.agg (H3.map cb).toArray), FP.eq (.agg (x.map cb).toArray), FP.eq (.agg (y.map cb).toArray), FP.eq (.agg (H3.map cb).toArray), FP.eq (.bool true), FP.eq (.bool true), FP.eq (.bool true), FP.eq (.agg (x.map cb).toArray), FP.eq (.string ⟨T4.toArray⟩), FP.eq (.agg (x.map cb).toArray), FP.eq (.string ⟨T4.toArray⟩), FP.eq (.bool true), FP.eq (.bool true)] ?_ ?_
  · refine allFrom_cons ?_ ?_
    · intro a_ w_ hk_
      have h0 : a_.eval (.tmp 0) = .slice A0 l0.length c0 := hk_.old 0 (by kernel_rfl)
      have hx_ := hk_.ext
      clear hk_
      refine flow_plain rfl ?_
      exact gives_move rfl ⟨Below.refl _ _, h0⟩
    refine allFrom_cons ?_ ?_
    · intro a_ w_ hk_
      have h17 : a_.eval (.tmp 17) = (.slice A0 l0.length c0) := hk_.got 0 17 _ (by kernel_rfl) rfl rfl
      have hx_ := hk_.ext
      clear hk_
      refine flow_plain rfl ?_
      unfold gives
      have hc_ : ∀ v, a_.eval (.const v) = v := fun _ => rfl
      have hn_ : ∀ f, a_.eval (.func f) = .func (.func f) #[] #[] := fun _ => rfl
      generalize a_.eval = ρ_ at *
      go_simp
      exact rdV_one ⟨A0, c0, rfl, hc0, (HR.out.below (bx_trans HB01.out hx_)).more (bx_trans HB01.out hx_).size⟩ (Nat.le_refl _)
    refine allFrom_cons ?_ ?_
    · intro a_ w_ hk_
      have h18 : (FP.rows [l0]).p (a_.eval (.tmp 18)) w_ := hk_.got 1 18 _ (by kernel_rfl) rfl rfl
      have hx_ := hk_.ext
      clear hk_
      refine flow_plain rfl ?_
      unfold gives
      have hc_ : ∀ v, a_.eval (.const v) = v := fun _ => rfl
      have hn_ : ∀ f, a_.eval (.func f) = .func (.func f) #[] #[] := fun _ => rfl
      obtain ⟨A18, c18, h18, r18⟩ := h18
      generalize a_.eval = ρ_ at *
      go_simp
      exact (HO.out w_ (HL.out.below (bx_trans HB01.out hx_)) _ _ _ r18 (Nat.le_refl _)).mono fun e w' hh => ⟨_, hh.1, hh.2, by rw [K1.out, show ([l0] : List (List UInt8)).flatten = l0 from by simp]; rfl⟩
    refine allFrom_cons ?_ ?_
    · intro a_ w_ hk_
      have h8 : a_.eval (.tmp 8) = .string ⟨l0.toArray⟩ := hk_.old 8 (by kernel_rfl)
      have hx_ := hk_.ext
      clear hk_
      refine flow_plain rfl ?_
      exact gives_move rfl ⟨Below.refl _ _, h8⟩
    refine allFrom_cons ?_ ?_
    · intro a_ w_ hk_
      have h20 : a_.eval (.tmp 20) = (.string ⟨l0.toArray⟩) := hk_.got 3 20 _ (by kernel_rfl) rfl rfl
      have hx_ := hk_.ext
      clear hk_
      refine flow_plain rfl ?_
      unfold gives
      have hc_ : ∀ v, a_.eval (.const v) = v := fun _ => rfl
      have hn_ : ∀ f, a_.eval (.func f) = .func (.func f) #[] #[] := fun _ => rfl
      generalize a_.eval = ρ_ at *
      go_simp
      exact (rOf_any w_ l0 (by omega)).mono fun e w' hh => ⟨_, hh.1, hh.2, by rw [K1.out]; rfl⟩
    refine allFrom_cons ?_ ?_
    · intro a_ w_ hk_
      have h19 : a_.eval (.tmp 19) = (.agg (H1.map cb).toArray) := hk_.got 2 19 _ (by kernel_rfl) rfl rfl
      have h21 : a_.eval (.tmp 21) = (.agg (H1.map cb).toArray) := hk_.got 4 21 _ (by kernel_rfl) rfl rfl
      have hx_ := hk_.ext
      clear hk_
      refine flow_plain rfl ?_
      unfold gives
      have hc_ : ∀ v, a_.eval (.const v) = v := fun _ => rfl
      have hn_ : ∀ f, a_.eval (.func f) = .func (.func f) #[] #[] := fun _ => rfl
      have heq := E1.out
      generalize a_.eval = ρ_ at *
      go_simp
      exact ⟨Below.refl _ _, rfl⟩
    refine allFrom_cons ?_ ?_
    · intro a_ w_ hk_
      have h22 : a_.eval (.tmp 22) = (.bool true) := hk_.got 5 22 _ (by kernel_rfl) rfl rfl
      have hx_ := hk_.ext
      clear hk_
      refine flow_plain rfl ?_
      exact gives_move rfl ⟨Below.refl _ _, h22⟩
    refine allFrom_cons ?_ ?_
    · intro a_ w_ hk_
      have h0 : a_.eval (.tmp 0) = .slice A0 l0.length c0 := hk_.old 0 (by kernel_rfl)
      have hg_ : a_.eval (.tmp 23) = .bool true := hk_.got 6 23 _ (by kernel_rfl) rfl rfl
      have hy_ := hk_.want 6 _ 23 true rfl rfl hg_
      have hx_ := hk_.ext
      clear hk_
      refine flow_want rfl hy_ ?_
      exact gives_move rfl ⟨Below.refl _ _, h0⟩
    refine allFrom_cons ?_ ?_
    · intro a_ w_ hk_
      have h24 : a_.eval (.tmp 24) = (.slice A0 l0.length c0) := hk_.got 7 24 _ (by kernel_rfl) rfl rfl
      have hg_ : a_.eval (.tmp 23) = .bool true := hk_.got 6 23 _ (by kernel_rfl) rfl rfl
      have hy_ := hk_.want 6 _ 23 true rfl rfl hg_
      have hx_ := hk_.ext
      clear hk_
      refine flow_want rfl hy_ ?_
      unfold gives
      have hc_ : ∀ v, a_.eval (.const v) = v := fun _ => rfl
      have hn_ : ∀ f, a_.eval (.func f) = .func (.func f) #[] #[] := fun _ => rfl
      clear hy_ hg_
      generalize a_.eval = ρ_ at *
      go_simp
      exact (Leaf_any w_ (HL.out.below (bx_trans HB01.out hx_)) ((HR.out.below (bx_trans HB01.out hx_))) (bx_trans HB01.out hx_).size hc0 (by omega)).mono fun e w' hh => ⟨_, hh.1, hh.2, by rw [K2.out]; rfl⟩
    refine allFrom_cons ?_ ?_
    · intro a_ w_ hk_
      have h8 : a_.eval (.tmp 8) = .string ⟨l0.toArray⟩ := hk_.old 8 (by kernel_rfl)
      have hg_ : a_.eval (.tmp 23) = .bool true := hk_.got 6 23 _ (by kernel_rfl) rfl rfl
      have hy_ := hk_.want 6 _ 23 true rfl rfl hg_
      have hx_ := hk_.ext
      clear hk_
      refine flow_want rfl hy_ ?_
      exact gives_move rfl ⟨Below.refl _ _, h8⟩
    refine allFrom_cons ?_ ?_
    · intro a_ w_ hk_
      have h26 : a_.eval (.tmp 26) = (.string ⟨l0.toArray⟩) := hk_.got 9 26 _ (by kernel_rfl) rfl rfl
      have hg_ : a_.eval (.tmp 23) = .bool true := hk_.got 6 23 _ (by kernel_rfl) rfl rfl
      have hy_ := hk_.want 6 _ 23 true rfl rfl hg_
      have hx_ := hk_.ext
      clear hk_
      refine flow_want rfl hy_ ?_
      unfold gives
      have hc_ : ∀ v, a_.eval (.const v) = v := fun _ => rfl
      have hn_ : ∀ f, a_.eval (.func f) = .func (.func f) #[] #[] := fun _ => rfl
      clear hy_ hg_
      generalize a_.eval = ρ_ at *
      go_simp
      exact (rLeaf_any w_ l0 (by omega)).mono fun e w' hh => ⟨_, hh.1, hh.2, by rw [K2.out]; rfl⟩
    refine allFrom_cons ?_ ?_
    · intro a_ w_ hk_
      have h25 : a_.eval (.tmp 25) = (.agg (H2.map cb).toArray) := hk_.got 8 25 _ (by kernel_rfl) rfl rfl
      have h27 : a_.eval (.tmp 27) = (.agg (H2.map cb).toArray) := hk_.got 10 27 _ (by kernel_rfl) rfl rfl
      have hg_ : a_.eval (.tmp 23) = .bool true := hk_.got 6 23 _ (by kernel_rfl) rfl rfl
      have hy_ := hk_.want 6 _ 23 true rfl rfl hg_
      have hx_ := hk_.ext
      clear hk_
      refine flow_want rfl hy_ ?_
      unfold gives
      have hc_ : ∀ v, a_.eval (.const v) = v := fun _ => rfl
      have hn_ : ∀ f, a_.eval (.func f) = .func (.func f) #[] #[] := fun _ => rfl
      clear hy_ hg_
      have heq := E2.out
      generalize a_.eval = ρ_ at *
      go_simp
      exact ⟨Below.refl _ _, rfl⟩
    refine allFrom_cons ?_ ?_
    · intro a_ w_ hk_
      have h23 : a_.eval (.tmp 23) = (.bool true) := hk_.got 6 23 _ (by kernel_rfl) rfl rfl
      have h28 : a_.eval (.tmp 28) = (.bool true) := hk_.got 11 28 _ (by kernel_rfl) rfl rfl
      have hx_ := hk_.ext
      clear hk_
      refine flow_plain rfl ?_
      exact gives_pick rfl h23 ⟨Below.refl _ _, h28⟩
    refine allFrom_cons ?_ ?_
    · intro a_ w_ hk_
      have h29 : a_.eval (.tmp 29) = (.bool true) := hk_.got 12 29 _ (by kernel_rfl) rfl rfl
      have hx_ := hk_.ext
      clear hk_
      refine flow_plain rfl ?_
      exact gives_move rfl ⟨Below.refl _ _, h29⟩
    refine allFrom_cons ?_ ?_
    · intro a_ w_ hk_
      have h4 : a_.eval (.tmp 4) = .pointer (some ⟨g4, 0, none⟩) := hk_.old 4 (by kernel_rfl)
      have hg_ : a_.eval (.tmp 30) = .bool true := hk_.got 13 30 _ (by kernel_rfl) rfl rfl
      have hy_ := hk_.want 13 _ 30 true rfl rfl hg_
      have hx_ := hk_.ext
      clear hk_
      refine flow_want rfl hy_ ?_
      exact gives_load_agg _ _ rfl _ _ h4 (x.map cb) hax (blk_cells (hA1.below hx_ hA1.lt)) ⟨Below.refl _ _, rfl⟩
    refine allFrom_cons ?_ ?_
    · intro a_ w_ hk_
      have h5 : a_.eval (.tmp 5) = .pointer (some ⟨g5, 0, none⟩) := hk_.old 5 (by kernel_rfl)
      have hg_ : a_.eval (.tmp 30) = .bool true := hk_.got 13 30 _ (by kernel_rfl) rfl rfl
      have hy_ := hk_.want 13 _ 30 true rfl rfl hg_
      have hx_ := hk_.ext
      clear hk_
      refine flow_want rfl hy_ ?_
      exact gives_load_agg _ _ rfl _ _ h5 (y.map cb) hay (blk_cells (hB1.below hx_ hB1.lt)) ⟨Below.refl _ _, rfl⟩
    refine allFrom_cons ?_ ?_
    · intro a_ w_ hk_
      have h31 : a_.eval (.tmp 31) = (.agg (x.map cb).toArray) := hk_.got 14 31 _ (by kernel_rfl) rfl rfl
      have h32 : a_.eval (.tmp 32) = (.agg (y.map cb).toArray) := hk_.got 15 32 _ (by kernel_rfl) rfl rfl
      have hg_ : a_.eval (.tmp 30) = .bool true := hk_.got 13 30 _ (by kernel_rfl) rfl rfl
      have hy_ := hk_.want 13 _ 30 true rfl rfl hg_
      have hx_ := hk_.ext
      clear hk_
      refine flow_want rfl hy_ ?_
      unfold gives
      have hc_ : ∀ v, a_.eval (.const v) = v := fun _ => rfl
      have hn_ : ∀ f, a_.eval (.func f) = .func (.func f) #[] #[] := fun _ => rfl
      clear hy_ hg_
      generalize a_.eval = ρ_ at *
      go_simp
      exact (Node_any w_ (HL.out.below (bx_trans HB01.out hx_)) hx hy).mono fun e w' hh => ⟨_, hh.1, hh.2, by rw [K3.out]; rfl⟩
    refine allFrom_cons ?_ ?_
    · intro a_ w_ hk_
      have h4 : a_.eval (.tmp 4) = .pointer (some ⟨g4, 0, none⟩) := hk_.old 4 (by kernel_rfl)
      have hg_ : a_.eval (.tmp 30) = .bool true := hk_.got 13 30 _ (by kernel_rfl) rfl rfl
      have hy_ := hk_.want 13 _ 30 true rfl rfl hg_
      have hx_ := hk_.ext
      clear hk_
      refine flow_want rfl hy_ ?_
      exact gives_load_agg _ _ rfl _ _ h4 (x.map cb) hax (blk_cells (hA1.below hx_ hA1.lt)) ⟨Below.refl _ _, rfl⟩
    refine allFrom_cons ?_ ?_
    · intro a_ w_ hk_
      have h5 : a_.eval (.tmp 5) = .pointer (some ⟨g5, 0, none⟩) := hk_.old 5 (by kernel_rfl)
      have hg_ : a_.eval (.tmp 30) = .bool true := hk_.got 13 30 _ (by kernel_rfl) rfl rfl
      have hy_ := hk_.want 13 _ 30 true rfl rfl hg_
      have hx_ := hk_.ext
      clear hk_
      refine flow_want rfl hy_ ?_
      exact gives_load_agg _ _ rfl _ _ h5 (y.map cb) hay (blk_cells (hB1.below hx_ hB1.lt)) ⟨Below.refl _ _, rfl⟩
    refine allFrom_cons ?_ ?_
    · intro a_ w_ hk_
      have h34 : a_.eval (.tmp 34) = (.agg (x.map cb).toArray) := hk_.got 17 34 _ (by kernel_rfl) rfl rfl
      have h35 : a_.eval (.tmp 35) = (.agg (y.map cb).toArray) := hk_.got 18 35 _ (by kernel_rfl) rfl rfl
      have hg_ : a_.eval (.tmp 30) = .bool true := hk_.got 13 30 _ (by kernel_rfl) rfl rfl
      have hy_ := hk_.want 13 _ 30 true rfl rfl hg_
      have hx_ := hk_.ext
      clear hk_
      refine flow_want rfl hy_ ?_
      unfold gives
      have hc_ : ∀ v, a_.eval (.const v) = v := fun _ => rfl
      have hn_ : ∀ f, a_.eval (.func f) = .func (.func f) #[] #[] := fun _ => rfl
      clear hy_ hg_
      generalize a_.eval = ρ_ at *
      go_simp
      exact (rNode_any w_ hx hy).mono fun e w' hh => ⟨_, hh.1, hh.2, by rw [K3.out]; rfl⟩
    refine allFrom_cons ?_ ?_
    · intro a_ w_ hk_
      have h33 : a_.eval (.tmp 33) = (.agg (H3.map cb).toArray) := hk_.got 16 33 _ (by kernel_rfl) rfl rfl
      have h36 : a_.eval (.tmp 36) = (.agg (H3.map cb).toArray) := hk_.got 19 36 _ (by kernel_rfl) rfl rfl
      have hg_ : a_.eval (.tmp 30) = .bool true := hk_.got 13 30 _ (by kernel_rfl) rfl rfl
      have hy_ := hk_.want 13 _ 30 true rfl rfl hg_
      have hx_ := hk_.ext
      clear hk_
      refine flow_want rfl hy_ ?_
      unfold gives
      have hc_ : ∀ v, a_.eval (.const v) = v := fun _ => rfl
      have hn_ : ∀ f, a_.eval (.func f) = .func (.func f) #[] #[] := fun _ => rfl
      clear hy_ hg_
      have heq := E3.out
      generalize a_.eval = ρ_ at *
      go_simp
      exact ⟨Below.refl _ _, rfl⟩
    refine allFrom_cons ?_ ?_
    · intro a_ w_ hk_
      have h30 : a_.eval (.tmp 30) = (.bool true) := hk_.got 13 30 _ (by kernel_rfl) rfl rfl
      have h37 : a_.eval (.tmp 37) = (.bool true) := hk_.got 20 37 _ (by kernel_rfl) rfl rfl
      have hx_ := hk_.ext
      clear hk_
      refine flow_plain rfl ?_
      exact gives_pick rfl h30 ⟨Below.refl _ _, h37⟩
    refine allFrom_cons ?_ ?_
    · intro a_ w_ hk_
      have h38 : a_.eval (.tmp 38) = (.bool true) := hk_.got 21 38 _ (by kernel_rfl) rfl rfl
      have hx_ := hk_.ext
      clear hk_
      refine flow_plain rfl ?_
      exact gives_move rfl ⟨Below.refl _ _, h38⟩
    refine allFrom_cons ?_ ?_
    · intro a_ w_ hk_
      have h4 : a_.eval (.tmp 4) = .pointer (some ⟨g4, 0, none⟩) := hk_.old 4 (by kernel_rfl)
      have hg_ : a_.eval (.tmp 39) = .bool true := hk_.got 22 39 _ (by kernel_rfl) rfl rfl
      have hy_ := hk_.want 22 _ 39 true rfl rfl hg_
      have hx_ := hk_.ext
      clear hk_
      refine flow_want rfl hy_ ?_
      exact gives_load_agg _ _ rfl _ _ h4 (x.map cb) hax (blk_cells (hA1.below hx_ hA1.lt)) ⟨Below.refl _ _, rfl⟩
    refine allFrom_cons ?_ ?_
    · intro a_ w_ hk_
      have h40 : a_.eval (.tmp 40) = (.agg (x.map cb).toArray) := hk_.got 23 40 _ (by kernel_rfl) rfl rfl
      have hg_ : a_.eval (.tmp 39) = .bool true := hk_.got 22 39 _ (by kernel_rfl) rfl rfl
      have hy_ := hk_.want 22 _ 39 true rfl rfl hg_
      have hx_ := hk_.ext
      clear hk_
      refine flow_want rfl hy_ ?_
      unfold gives
      have hc_ : ∀ v, a_.eval (.const v) = v := fun _ => rfl
      have hn_ : ∀ f, a_.eval (.func f) = .func (.func f) #[] #[] := fun _ => rfl
      clear hy_ hg_
      generalize a_.eval = ρ_ at *
      go_simp
      exact (Text_any w_ hx).mono fun e w' hh => ⟨_, hh.1, hh.2, by rw [K4.out]; rfl⟩
    refine allFrom_cons ?_ ?_
    · intro a_ w_ hk_
      have h4 : a_.eval (.tmp 4) = .pointer (some ⟨g4, 0, none⟩) := hk_.old 4 (by kernel_rfl)
      have hg_ : a_.eval (.tmp 39) = .bool true := hk_.got 22 39 _ (by kernel_rfl) rfl rfl
      have hy_ := hk_.want 22 _ 39 true rfl rfl hg_
      have hx_ := hk_.ext
      clear hk_
      refine flow_want rfl hy_ ?_
      exact gives_load_agg _ _ rfl _ _ h4 (x.map cb) hax (blk_cells (hA1.below hx_ hA1.lt)) ⟨Below.refl _ _, rfl⟩
    refine allFrom_cons ?_ ?_
    · intro a_ w_ hk_
      have h42 : a_.eval (.tmp 42) = (.agg (x.map cb).toArray) := hk_.got 25 42 _ (by kernel_rfl) rfl rfl
      have hg_ : a_.eval (.tmp 39) = .bool true := hk_.got 22 39 _ (by kernel_rfl) rfl rfl
      have hy_ := hk_.want 22 _ 39 true rfl rfl hg_
      have hx_ := hk_.ext
      clear hk_
      refine flow_want rfl hy_ ?_
      unfold gives
      have hc_ : ∀ v, a_.eval (.const v) = v := fun _ => rfl
      have hn_ : ∀ f, a_.eval (.func f) = .func (.func f) #[] #[] := fun _ => rfl
      clear hy_ hg_
      generalize a_.eval = ρ_ at *
      go_simp
      exact (rText_any w_ hx).mono fun e w' hh => ⟨_, hh.1, hh.2, by rw [K4.out]; rfl⟩
    refine allFrom_cons ?_ ?_
    · intro a_ w_ hk_
      have h41 : a_.eval (.tmp 41) = (.string ⟨T4.toArray⟩) := hk_.got 24 41 _ (by kernel_rfl) rfl rfl
      have h43 : a_.eval (.tmp 43) = (.string ⟨T4.toArray⟩) := hk_.got 26 43 _ (by kernel_rfl) rfl rfl
      have hg_ : a_.eval (.tmp 39) = .bool true := hk_.got 22 39 _ (by kernel_rfl) rfl rfl
      have hy_ := hk_.want 22 _ 39 true rfl rfl hg_
      have hx_ := hk_.ext
      clear hk_
      refine flow_want rfl hy_ ?_
      unfold gives
      have hc_ : ∀ v, a_.eval (.const v) = v := fun _ => rfl
      have hn_ : ∀ f, a_.eval (.func f) = .func (.func f) #[] #[] := fun _ => rfl
      clear hy_ hg_
      generalize a_.eval = ρ_ at *
      go_simp
      exact ⟨Below.refl _ _, rfl⟩
    refine allFrom_cons ?_ ?_
    · intro a_ w_ hk_
      have h39 : a_.eval (.tmp 39) = (.bool true) := hk_.got 22 39 _ (by kernel_rfl) rfl rfl
      have h44 : a_.eval (.tmp 44) = (.bool true) := hk_.got 27 44 _ (by kernel_rfl) rfl rfl
      have hx_ := hk_.ext
      clear hk_
      refine flow_plain rfl ?_
      exact gives_pick rfl h39 ⟨Below.refl _ _, h44⟩
    exact allFrom_nil
  intro f_ w_ hx_ hf_
  have h17 : f_ 17 = (.slice A0 l0.length c0) := hf_ 0 17 _ (by decide) rfl rfl
  have h18 : (FP.rows [l0]).p (f_ 18) w_ := hf_ 1 18 _ (by decide) rfl rfl
  have h19 : f_ 19 = (.agg (H1.map cb).toArray) := hf_ 2 19 _ (by decide) rfl rfl
  have h20 : f_ 20 = (.string ⟨l0.toArray⟩) := hf_ 3 20 _ (by decide) rfl rfl
  have h21 : f_ 21 = (.agg (H1.map cb).toArray) := hf_ 4 21 _ (by decide) rfl rfl
  have h22 : f_ 22 = (.bool true) := hf_ 5 22 _ (by decide) rfl rfl
  have h23 : f_ 23 = (.bool true) := hf_ 6 23 _ (by decide) rfl rfl
  have h24 : f_ 24 = (.slice A0 l0.length c0) := hf_ 7 24 _ (by decide) rfl rfl
  have h25 : f_ 25 = (.agg (H2.map cb).toArray) := hf_ 8 25 _ (by decide) rfl rfl
  have h26 : f_ 26 = (.string ⟨l0.toArray⟩) := hf_ 9 26 _ (by decide) rfl rfl
  have h27 : f_ 27 = (.agg (H2.map cb).toArray) := hf_ 10 27 _ (by decide) rfl rfl
  have h28 : f_ 28 = (.bool true) := hf_ 11 28 _ (by decide) rfl rfl
  have h29 : f_ 29 = (.bool true) := hf_ 12 29 _ (by decide) rfl rfl
  have h30 : f_ 30 = (.bool true) := hf_ 13 30 _ (by decide) rfl rfl
  have h31 : f_ 31 = (.agg (x.map cb).toArray) := hf_ 14 31 _ (by decide) rfl rfl
  have h32 : f_ 32 = (.agg (y.map cb).toArray) := hf_ 15 32 _ (by decide) rfl rfl
  have h33 : f_ 33 = (.agg (H3.map cb).toArray) := hf_ 16 33 _ (by decide) rfl rfl
  have h34 : f_ 34 = (.agg (x.map cb).toArray) := hf_ 17 34 _ (by decide) rfl rfl
  have h35 : f_ 35 = (.agg (y.map cb).toArray) := hf_ 18 35 _ (by decide) rfl rfl
  have h36 : f_ 36 = (.agg (H3.map cb).toArray) := hf_ 19 36 _ (by decide) rfl rfl
  have h37 : f_ 37 = (.bool true) := hf_ 20 37 _ (by decide) rfl rfl
  have h38 : f_ 38 = (.bool true) := hf_ 21 38 _ (by decide) rfl rfl
  have h39 : f_ 39 = (.bool true) := hf_ 22 39 _ (by decide) rfl rfl
  have h40 : f_ 40 = (.agg (x.map cb).toArray) := hf_ 23 40 _ (by decide) rfl rfl
  have h41 : f_ 41 = (.string ⟨T4.toArray⟩) := hf_ 24 41 _ (by decide) rfl rfl
  have h42 : f_ 42 = (.agg (x.map cb).toArray) := hf_ 25 42 _ (by decide) rfl rfl
  have h43 : f_ 43 = (.string ⟨T4.toArray⟩) := hf_ 26 43 _ (by decide) rfl rfl
  have h44 : f_ 44 = (.bool true) := hf_ 27 44 _ (by decide) rfl rfl
  have h45 : f_ 45 = (.bool true) := hf_ 28 45 _ (by decide) rfl rfl
  simp only [mix, List.drop_succ_cons, List.drop_zero, h17, h19, h20, h21, h22, h23, h24, h25, h26, h27, h28, h29, h30, h31, h32, h33, h34, h35, h36, h37, h38, h39, h40, h41, h42, h43, h44, h45]
  clear h17 h19 h20 h21 h22 h23 h24 h25 h26 h27 h28 h29 h30 h31 h32 h33 h34 h35 h36 h37 h38 h39 h40 h41 h42 h43 h44 h45
  clear hf_
  have HF := hid (bx_trans HB01.out hx_)
  clear hx_
  go_wp2
  go_ret
  exact ⟨rfl, HF.out⟩
end Go.Proofs.YtebabkccpbdphaaDoor
