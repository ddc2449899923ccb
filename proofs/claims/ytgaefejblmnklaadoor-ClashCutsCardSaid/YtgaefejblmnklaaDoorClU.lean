
/- ClashCuts: its walk. -/
import Derived.Test.YtgaefejblmnklaaDoorClST
import Derived.OpenShut
namespace Go.Proofs.YtgaefejblmnklaaDoor
open Go.RowKit
set_option linter.unusedVariables false
theorem cutL_get (k : Nat) (h : List UInt8) (j : Nat) : (cutL k h)[j]? = if j < h.length then some (if j < k then h.getD j 0 else 0) else none := by
  unfold cutL
  rw [List.getElem?_append, List.length_take]
  by_cases hj : j < h.length
  · rw [if_pos hj]
    by_cases hk : j < k
    · rw [if_pos (by omega), if_pos hk, List.getElem?_take, if_pos hk, List.getElem?_eq_getElem hj]
      simp [List.getD, hj]
    · rw [if_neg (by omega), if_neg hk, List.getElem?_replicate, if_pos (by omega)]
  · rw [if_neg hj, if_neg (by omega), List.getElem?_replicate, if_neg (by omega)]
theorem cutL_length (k : Nat) (h : List UInt8) : (cutL k h).length = h.length := by
  unfold cutL
  rw [List.length_append, List.length_take, List.length_replicate]
  omega
theorem cutL_cutL (a b : Int) {h : List UInt8} : cutL (wideN b) (cutL (wideN a) h) = cutL (wideN (min a b)) h := by
  apply List.ext_getElem?
  intro j
  rw [cutL_get, cutL_get, cutL_length]
  by_cases hj : j < h.length
  · rw [if_pos hj, if_pos hj]
    congr 1
    have e : (cutL (wideN a) h).getD j 0 = if j < wideN a then h.getD j 0 else 0 := by
      rw [List.getD_eq_getElem?_getD, cutL_get, if_pos hj]
      rfl
    rw [e]
    have hm : wideN (min a b) = min (wideN a) (wideN b) := by unfold wideN; omega
    rw [hm]
    by_cases h1 : j < wideN a
    · by_cases h2 : j < wideN b
      · rw [if_pos h2, if_pos h1, if_pos (by omega)]
      · rw [if_neg h2, if_neg (by omega)]
    · rw [if_neg h1, if_neg (show ¬ j < min (wideN a) (wideN b) by omega)]
      split <;> rfl
  · rw [if_neg hj, if_neg hj]
theorem cutL_none {h : List UInt8} (hh : h.length = 32) : cutL (wideN 0) h = zeroL := by
  have : wideN 0 = 0 := rfl
  rw [this]
  unfold cutL zeroL
  rw [List.take_zero, hh, List.nil_append]
theorem cut_cell {w : World} {g k i : Nat} {h : List UInt8} {t : TypeId} (hb : Blk w g t ((cutL k h).map cb).toArray) (hi : i < h.length) : w.cell? ⟨g, i, none⟩ = some (cb (if i < k then h.getD i 0 else 0)) := by
  rw [hb.cell, List.getElem?_toArray, List.getElem?_map, cutL_get, if_pos hi]
  rfl
theorem hash_cell {w : World} {g i : Nat} {h : List UInt8} {t : TypeId} (hb : Blk w g t (h.map cb).toArray) (hi : i < h.length) : w.cell? ⟨g, i, none⟩ = some (cb (h.getD i 0)) := by
  rw [hb.cell, List.getElem?_toArray, List.getElem?_map, List.getElem?_eq_getElem hi]
  simp [List.getD, hi]
set_option maxRecDepth 100000 in
set_option maxHeartbeats 4000000 in
theorem ClashCuts_walk (w : World) (hL : Laid w) (a : Int) (ha : (Lit.int .i64 a).wf = true) (b : Int) (hb : (Lit.int .i64 b).wf = true) (h : List UInt8) (hh : h.length = 32) :
    Calls Tryd.prog 3 #[.int .i64 a, .int .i64 b, .agg (h.map cb).toArray] w fun e w' => e = .returned (.bool true) ∧ Below w.heap.size w w' := by
  have HL := hid hL
  have hk0 : Blk (w.alloc (.cells (h.map cb).toArray tH)) w.heap.size tH (h.map cb).toArray := Blk.new w _ _
  have hb0 : Below w.heap.size w (w.alloc (.cells (h.map cb).toArray tH)) := bx_alloc (Below.refl _ _) _
  have hah := aggHL hh
  clear hL ha hb
  go_enter Tryd.func3, Tryd.ntmps3
  go_wp2_with fail
  refine (clAwake _ (HL.out.below hb0)).mono ?_
  rintro e w1 ⟨rfl, hb1⟩
  have hb01 := bx_trans hb0 hb1
  have hk1 := hk0.below hb1 hk0.lt
  have hck1 := blk_cells hk1
  have hxl := cutL_len (wideN a) h hh
  clear hk0 hb0 hb1
  go_wp2_with ((with_reducible refine wpAtC ?_); refine wpList_load_agg rfl _ _ rfl _ _ rfl (h.map cb) hah hck1 ?_; simp only [Act.put, List.setIfInBounds_toArray, List.set_cons_succ, List.set_cons_zero])
  refine (Cut_any w1 a hh).mono ?_
  rintro e w2 ⟨rfl, hb2⟩
  have hk2 := hk1.below hb2 hk1.lt
  have hb02 := bx_trans hb01 hb2
  obtain ⟨X, hX⟩ : ∃ X, X = cutL (wideN a) h := ⟨_, rfl⟩
  rw [← hX] at hxl ⊢
  have HX := hid hX
  clear hk1 hck1 hb2 hb01 hX
  go_wp2_with (first
    | ((with_reducible refine wpAtC ?_); refine wpList_alloc (w := w2) rfl _ rfl zeroH ?_; intro g8 w3 hg8 hg8' hz8 hb3; simp only [Act.put, List.setIfInBounds_toArray, List.set_cons_succ, List.set_cons_zero])
    | ((with_reducible refine wpAtC ?_); refine wpList_store_agg rfl _ _ _ rfl _ _ rfl (X.map cb).toArray rfl (aggHS hxl) hz8 (szH hxl) (one_cbA _) ?_; intro w4 hp4; simp only [Act.put]; rw [splH hxl] at hp4))
  have hb24 := bx_put hb3 hp4 hg8
  have hk4 := hk2.below hb24 hk2.lt
  have hx4 := hp4.blk
  have hb04 := bx_trans hb02 hb24
  clear hk2 hz8 hp4 hb3 hb24 hb02
  go_loopw [9] (fun v9 wr => ∃ i : Nat, i ≤ 32 ∧ v9 = .int .i64 (i : Int) ∧ Blk wr w.heap.size tH (h.map cb).toArray ∧ Blk wr g8 tH (X.map cb).toArray ∧ Below w.heap.size w wr) (fun v9 _ => 32 - (intOf v9).toNat)
  case atStart => exact ⟨0, by omega, rfl, hk4, hx4, hb04⟩
  case round =>
    obtain ⟨i, hi, rfl, hk, hx, hbr⟩ := hrel
    rename World => wr
    clear hk4 hx4 hb04
    by_cases hlt : i < 32
    · have hxc : wr.cell? ⟨g8, i, none⟩ = some (cb (if i < wideN a then h.getD i 0 else 0)) := by rw [HX.out] at hx; exact cut_cell hx (by omega)
      have hkc := hash_cell hk (i := i) (by omega)
      have hxlt := hx.lt
      have hklt := hk.lt
      have hlti : (i : Int) < 32 := by omega
      by_cases hia : (i : Int) < a
      · have hia2 : ¬ a ≤ (i : Int) := by omega
        have hwi : i < wideN a := by unfold wideN; omega
        rw [if_pos hwi] at hxc
        generalize h.getD i 0 = c at *
        unfold cb at hxc hkc
        clear hwi
        go_wp2_with fail
        refine wp_flow (by kernel_rfl) [0, 0, 3, 7, 15, 31, 63, 15, 143, 399, 1023, 2047, 4095, 8191, 8191, 32767, 65535, 131071, 262143, 524287, 1048575, 2097151, 4194303] 23 [false, false, false, false, false, false, false, false, false, false, false, false, false, false, false, false, false, false, false, false, true, true, true, true, true, true, true, true, true, true, true, true, true, true, true, true, true, true, true, true, true, true, true] (by kernel_rfl) (by decide) (by kernel_rfl) [FP.eq (.int .i64 (i : Int)), FP.eq (.int .i64 a), FP.eq (.bool true), FP.eq (.bool true), FP.eq (.int .i64 (i : Int)), FP.eq (.pointer (some ⟨g8, i, none⟩)), FP.eq (.int .u8 (c.toNat : Int)), FP.eq (.int .i64 (i : Int)), FP.eq (.pointer (some ⟨w.heap.size, i, none⟩)), FP.eq (.int .u8 (c.toNat : Int)), FP.eq (.bool false), FP.eq (.bool false), FP.eq (.bool false), FP.eq (.int .i64 (i : Int)), FP.eq (.int .i64 a), FP.eq (.bool false), FP.eq (.bool false), FP.any, FP.any, FP.any, FP.any, FP.eq (.bool false), FP.eq (.bool false)] ?_ ?_
        · refine allFrom_cons ?_ ?_
          · intro a_ w_ hk_
            have h9 : a_.eval (.tmp 9) = .int .i64 (i : Int) := hk_.old 9 (by kernel_rfl)
            have hx_ := hk_.ext
            clear hk_
            refine flow_plain rfl ?_
            exact gives_move rfl ⟨Below.refl _ _, h9⟩
          refine allFrom_cons ?_ ?_
          · intro a_ w_ hk_
            have h0 : a_.eval (.tmp 0) = .int .i64 a := hk_.old 0 (by kernel_rfl)
            have hx_ := hk_.ext
            clear hk_
            refine flow_plain rfl ?_
            exact gives_move rfl ⟨Below.refl _ _, h0⟩
          refine allFrom_cons ?_ ?_
          · intro a_ w_ hk_
            have h20 : a_.eval (.tmp 20) = (.int .i64 (i : Int)) := hk_.got 0 20 _ (by kernel_rfl) rfl rfl
            have h21 : a_.eval (.tmp 21) = (.int .i64 a) := hk_.got 1 21 _ (by kernel_rfl) rfl rfl
            have hx_ := hk_.ext
            clear hk_
            refine flow_plain rfl ?_
            unfold gives
            have hc_ : ∀ v, a_.eval (.const v) = v := fun _ => rfl
            have hn_ : ∀ f, a_.eval (.func f) = .func (.func f) #[] #[] := fun _ => rfl
            generalize a_.eval = ρ_ at *
            go_simp
            exact ⟨Below.refl _ _, rfl⟩
          refine allFrom_cons ?_ ?_
          · intro a_ w_ hk_
            have h22 : a_.eval (.tmp 22) = (.bool true) := hk_.got 2 22 _ (by kernel_rfl) rfl rfl
            have hx_ := hk_.ext
            clear hk_
            refine flow_plain rfl ?_
            exact gives_move rfl ⟨Below.refl _ _, h22⟩
          refine allFrom_cons ?_ ?_
          · intro a_ w_ hk_
            have h9 : a_.eval (.tmp 9) = .int .i64 (i : Int) := hk_.old 9 (by kernel_rfl)
            have hg_ : a_.eval (.tmp 23) = .bool true := hk_.got 3 23 _ (by kernel_rfl) rfl rfl
            have hy_ := hk_.want 3 _ 23 true rfl rfl hg_
            have hx_ := hk_.ext
            clear hk_
            refine flow_want rfl hy_ ?_
            exact gives_move rfl ⟨Below.refl _ _, h9⟩
          refine allFrom_cons ?_ ?_
          · intro a_ w_ hk_
            have h8 : a_.eval (.tmp 8) = .pointer (some ⟨g8, 0, none⟩) := hk_.old 8 (by kernel_rfl)
            have h24 : a_.eval (.tmp 24) = (.int .i64 (i : Int)) := hk_.got 4 24 _ (by kernel_rfl) rfl rfl
            have hg_ : a_.eval (.tmp 23) = .bool true := hk_.got 3 23 _ (by kernel_rfl) rfl rfl
            have hy_ := hk_.want 3 _ 23 true rfl rfl hg_
            have hx_ := hk_.ext
            clear hk_
            refine flow_want rfl hy_ ?_
            unfold gives
            have hc_ : ∀ v, a_.eval (.const v) = v := fun _ => rfl
            have hn_ : ∀ f, a_.eval (.func f) = .func (.func f) #[] #[] := fun _ => rfl
            clear hy_ hg_
            generalize a_.eval = ρ_ at *
            go_simp
            exact ⟨Below.refl _ _, rfl⟩
          refine allFrom_cons ?_ ?_
          · intro a_ w_ hk_
            have h25 : a_.eval (.tmp 25) = (.pointer (some ⟨g8, i, none⟩)) := hk_.got 5 25 _ (by kernel_rfl) rfl rfl
            have hg_ : a_.eval (.tmp 23) = .bool true := hk_.got 3 23 _ (by kernel_rfl) rfl rfl
            have hy_ := hk_.want 3 _ 23 true rfl rfl hg_
            have hx_ := hk_.ext
            clear hk_
            refine flow_want rfl hy_ ?_
            unfold gives
            have hc_ : ∀ v, a_.eval (.const v) = v := fun _ => rfl
            have hn_ : ∀ f, a_.eval (.func f) = .func (.func f) #[] #[] := fun _ => rfl
            clear hy_ hg_
            have hcell := (hx_.cell (p := ⟨g8, i, none⟩) hxlt).trans hxc
            generalize a_.eval = ρ_ at *
            go_simp
            exact ⟨Below.refl _ _, rfl⟩
          refine allFrom_cons ?_ ?_
          · intro a_ w_ hk_
            have h9 : a_.eval (.tmp 9) = .int .i64 (i : Int) := hk_.old 9 (by kernel_rfl)
            have hg_ : a_.eval (.tmp 23) = .bool true := hk_.got 3 23 _ (by kernel_rfl) rfl rfl
            have hy_ := hk_.want 3 _ 23 true rfl rfl hg_
            have hx_ := hk_.ext
            clear hk_
            refine flow_want rfl hy_ ?_
            exact gives_move rfl ⟨Below.refl _ _, h9⟩
          refine allFrom_cons ?_ ?_
          · intro a_ w_ hk_
            have h5 : a_.eval (.tmp 5) = .pointer (some ⟨w.heap.size, 0, none⟩) := hk_.old 5 (by kernel_rfl)
            have h27 : a_.eval (.tmp 27) = (.int .i64 (i : Int)) := hk_.got 7 27 _ (by kernel_rfl) rfl rfl
            have hg_ : a_.eval (.tmp 23) = .bool true := hk_.got 3 23 _ (by kernel_rfl) rfl rfl
            have hy_ := hk_.want 3 _ 23 true rfl rfl hg_
            have hx_ := hk_.ext
            clear hk_
            refine flow_want rfl hy_ ?_
            unfold gives
            have hc_ : ∀ v, a_.eval (.const v) = v := fun _ => rfl
            have hn_ : ∀ f, a_.eval (.func f) = .func (.func f) #[] #[] := fun _ => rfl
            clear hy_ hg_
            generalize a_.eval = ρ_ at *
            go_simp
            exact ⟨Below.refl _ _, rfl⟩
          refine allFrom_cons ?_ ?_
          · intro a_ w_ hk_
            have h28 : a_.eval (.tmp 28) = (.pointer (some ⟨w.heap.size, i, none⟩)) := hk_.got 8 28 _ (by kernel_rfl) rfl rfl
            have hg_ : a_.eval (.tmp 23) = .bool true := hk_.got 3 23 _ (by kernel_rfl) rfl rfl
            have hy_ := hk_.want 3 _ 23 true rfl rfl hg_
            have hx_ := hk_.ext
            clear hk_
            refine flow_want rfl hy_ ?_
            unfold gives
            have hc_ : ∀ v, a_.eval (.const v) = v := fun _ => rfl
            have hn_ : ∀ f, a_.eval (.func f) = .func (.func f) #[] #[] := fun _ => rfl
            clear hy_ hg_
            have hcell := (hx_.cell (p := ⟨w.heap.size, i, none⟩) hklt).trans hkc
            generalize a_.eval = ρ_ at *
            go_simp
            exact ⟨Below.refl _ _, rfl⟩
          refine allFrom_cons ?_ ?_
          · intro a_ w_ hk_
            have h26 : a_.eval (.tmp 26) = (.int .u8 (c.toNat : Int)) := hk_.got 6 26 _ (by kernel_rfl) rfl rfl
            have h29 : a_.eval (.tmp 29) = (.int .u8 (c.toNat : Int)) := hk_.got 9 29 _ (by kernel_rfl) rfl rfl
            have hg_ : a_.eval (.tmp 23) = .bool true := hk_.got 3 23 _ (by kernel_rfl) rfl rfl
            have hy_ := hk_.want 3 _ 23 true rfl rfl hg_
            have hx_ := hk_.ext
            clear hk_
            refine flow_want rfl hy_ ?_
            unfold gives
            have hc_ : ∀ v, a_.eval (.const v) = v := fun _ => rfl
            have hn_ : ∀ f, a_.eval (.func f) = .func (.func f) #[] #[] := fun _ => rfl
            clear hy_ hg_
            generalize a_.eval = ρ_ at *
            go_simp
            exact ⟨Below.refl _ _, rfl⟩
          refine allFrom_cons ?_ ?_
          · intro a_ w_ hk_
            have h23 : a_.eval (.tmp 23) = (.bool true) := hk_.got 3 23 _ (by kernel_rfl) rfl rfl
            have h30 : a_.eval (.tmp 30) = (.bool false) := hk_.got 10 30 _ (by kernel_rfl) rfl rfl
            have hx_ := hk_.ext
            clear hk_
            refine flow_plain rfl ?_
            exact gives_pick rfl h23 ⟨Below.refl _ _, h30⟩
          refine allFrom_cons ?_ ?_
          · intro a_ w_ hk_
            have h31 : a_.eval (.tmp 31) = (.bool false) := hk_.got 11 31 _ (by kernel_rfl) rfl rfl
            have hx_ := hk_.ext
            clear hk_
            refine flow_plain rfl ?_
            exact gives_move rfl ⟨Below.refl _ _, h31⟩
          refine allFrom_cons ?_ ?_
          · intro a_ w_ hk_
            have h9 : a_.eval (.tmp 9) = .int .i64 (i : Int) := hk_.old 9 (by kernel_rfl)
            have hg_ : a_.eval (.tmp 32) = .bool false := hk_.got 12 32 _ (by kernel_rfl) rfl rfl
            have hy_ := hk_.want 12 _ 32 false rfl rfl hg_
            have hx_ := hk_.ext
            clear hk_
            refine flow_want rfl hy_ ?_
            exact gives_move rfl ⟨Below.refl _ _, h9⟩
          refine allFrom_cons ?_ ?_
          · intro a_ w_ hk_
            have h0 : a_.eval (.tmp 0) = .int .i64 a := hk_.old 0 (by kernel_rfl)
            have hg_ : a_.eval (.tmp 32) = .bool false := hk_.got 12 32 _ (by kernel_rfl) rfl rfl
            have hy_ := hk_.want 12 _ 32 false rfl rfl hg_
            have hx_ := hk_.ext
            clear hk_
            refine flow_want rfl hy_ ?_
            exact gives_move rfl ⟨Below.refl _ _, h0⟩
          refine allFrom_cons ?_ ?_
          · intro a_ w_ hk_
            have h33 : a_.eval (.tmp 33) = (.int .i64 (i : Int)) := hk_.got 13 33 _ (by kernel_rfl) rfl rfl
            have h34 : a_.eval (.tmp 34) = (.int .i64 a) := hk_.got 14 34 _ (by kernel_rfl) rfl rfl
            have hg_ : a_.eval (.tmp 32) = .bool false := hk_.got 12 32 _ (by kernel_rfl) rfl rfl
            have hy_ := hk_.want 12 _ 32 false rfl rfl hg_
            have hx_ := hk_.ext
            clear hk_
            refine flow_want rfl hy_ ?_
            unfold gives
            have hc_ : ∀ v, a_.eval (.const v) = v := fun _ => rfl
            have hn_ : ∀ f, a_.eval (.func f) = .func (.func f) #[] #[] := fun _ => rfl
            clear hy_ hg_
            generalize a_.eval = ρ_ at *
            go_simp
            exact ⟨Below.refl _ _, congrArg Value.bool (decide_eq_false (by omega))⟩
          refine allFrom_cons ?_ ?_
          · intro a_ w_ hk_
            have h35 : a_.eval (.tmp 35) = (.bool false) := hk_.got 15 35 _ (by kernel_rfl) rfl rfl
            have hg_ : a_.eval (.tmp 32) = .bool false := hk_.got 12 32 _ (by kernel_rfl) rfl rfl
            have hy_ := hk_.want 12 _ 32 false rfl rfl hg_
            have hx_ := hk_.ext
            clear hk_
            refine flow_want rfl hy_ ?_
            exact gives_move rfl ⟨Below.refl _ _, h35⟩
          refine allFrom_cons ?_ ?_
          · intro a_ w_ hk_
            have h9 : a_.eval (.tmp 9) = .int .i64 (i : Int) := hk_.old 9 (by kernel_rfl)
            have hg_ : a_.eval (.tmp 36) = .bool false := hk_.got 16 36 _ (by kernel_rfl) rfl rfl
            have hy_ := hk_.want 16 _ 36 false rfl rfl hg_
            have hx_ := hk_.ext
            clear hk_
            exact flow_skip rfl hy_ (by decide) trivial
          refine allFrom_cons ?_ ?_
          · intro a_ w_ hk_
            have h8 : a_.eval (.tmp 8) = .pointer (some ⟨g8, 0, none⟩) := hk_.old 8 (by kernel_rfl)
            have hg_ : a_.eval (.tmp 36) = .bool false := hk_.got 16 36 _ (by kernel_rfl) rfl rfl
            have hy_ := hk_.want 16 _ 36 false rfl rfl hg_
            have hx_ := hk_.ext
            clear hk_
            exact flow_skip rfl hy_ (by decide) trivial
          refine allFrom_cons ?_ ?_
          · intro a_ w_ hk_
            have hg_ : a_.eval (.tmp 36) = .bool false := hk_.got 16 36 _ (by kernel_rfl) rfl rfl
            have hy_ := hk_.want 16 _ 36 false rfl rfl hg_
            have hx_ := hk_.ext
            clear hk_
            exact flow_skip rfl hy_ (by decide) trivial
          refine allFrom_cons ?_ ?_
          · intro a_ w_ hk_
            have hg_ : a_.eval (.tmp 36) = .bool false := hk_.got 16 36 _ (by kernel_rfl) rfl rfl
            have hy_ := hk_.want 16 _ 36 false rfl rfl hg_
            have hx_ := hk_.ext
            clear hk_
            exact flow_skip rfl hy_ (by decide) trivial
          refine allFrom_cons ?_ ?_
          · intro a_ w_ hk_
            have h36 : a_.eval (.tmp 36) = (.bool false) := hk_.got 16 36 _ (by kernel_rfl) rfl rfl
            have hg_ : a_.eval (.tmp 32) = .bool false := hk_.got 12 32 _ (by kernel_rfl) rfl rfl
            have hy_ := hk_.want 12 _ 32 false rfl rfl hg_
            have hx_ := hk_.ext
            clear hk_
            refine flow_want rfl hy_ ?_
            exact gives_pick rfl h36 ⟨Below.refl _ _, rfl⟩
          refine allFrom_cons ?_ ?_
          · intro a_ w_ hk_
            have h32 : a_.eval (.tmp 32) = (.bool false) := hk_.got 12 32 _ (by kernel_rfl) rfl rfl
            have h41 : a_.eval (.tmp 41) = (.bool false) := hk_.got 21 41 _ (by kernel_rfl) rfl rfl
            have hx_ := hk_.ext
            clear hk_
            refine flow_plain rfl ?_
            exact gives_pick rfl h32 ⟨Below.refl _ _, h41⟩
          exact allFrom_nil
        intro f_ w_ hx_ hf_
        have h20 : f_ 20 = (.int .i64 (i : Int)) := hf_ 0 20 _ (by decide) rfl rfl
        have h21 : f_ 21 = (.int .i64 a) := hf_ 1 21 _ (by decide) rfl rfl
        have h22 : f_ 22 = (.bool true) := hf_ 2 22 _ (by decide) rfl rfl
        have h23 : f_ 23 = (.bool true) := hf_ 3 23 _ (by decide) rfl rfl
        have h24 : f_ 24 = (.int .i64 (i : Int)) := hf_ 4 24 _ (by decide) rfl rfl
        have h25 : f_ 25 = (.pointer (some ⟨g8, i, none⟩)) := hf_ 5 25 _ (by decide) rfl rfl
        have h26 : f_ 26 = (.int .u8 (c.toNat : Int)) := hf_ 6 26 _ (by decide) rfl rfl
        have h27 : f_ 27 = (.int .i64 (i : Int)) := hf_ 7 27 _ (by decide) rfl rfl
        have h28 : f_ 28 = (.pointer (some ⟨w.heap.size, i, none⟩)) := hf_ 8 28 _ (by decide) rfl rfl
        have h29 : f_ 29 = (.int .u8 (c.toNat : Int)) := hf_ 9 29 _ (by decide) rfl rfl
        have h30 : f_ 30 = (.bool false) := hf_ 10 30 _ (by decide) rfl rfl
        have h31 : f_ 31 = (.bool false) := hf_ 11 31 _ (by decide) rfl rfl
        have h32 : f_ 32 = (.bool false) := hf_ 12 32 _ (by decide) rfl rfl
        have h33 : f_ 33 = (.int .i64 (i : Int)) := hf_ 13 33 _ (by decide) rfl rfl
        have h34 : f_ 34 = (.int .i64 a) := hf_ 14 34 _ (by decide) rfl rfl
        have h35 : f_ 35 = (.bool false) := hf_ 15 35 _ (by decide) rfl rfl
        have h36 : f_ 36 = (.bool false) := hf_ 16 36 _ (by decide) rfl rfl
        have h41 : f_ 41 = (.bool false) := hf_ 21 41 _ (by decide) rfl rfl
        have h42 : f_ 42 = (.bool false) := hf_ 22 42 _ (by decide) rfl rfl
        simp only [mix, List.drop_succ_cons, List.drop_zero, h20, h21, h22, h23, h24, h25, h26, h27, h28, h29, h30, h31, h32, h33, h34, h35, h36, h41, h42]
        clear h20 h21 h22 h23 h24 h25 h26 h27 h28 h29 h30 h31 h32 h33 h34 h35 h36 h41 h42
        clear hf_
        have hk2 := hk.below hx_ hk.lt
        have hx2 := hx.below hx_ hx.lt
        have hb2 := bx_trans hbr hx_
        clear hx_ hxc hkc
        go_wp2
        go_roundw
        case rel => exact ⟨i + 1, by omega, by go_num, hk2, hx2, hb2⟩
        case measure => simp [intOf]; omega
      · have hia2 : a ≤ (i : Int) := by omega
        have hwi : ¬ i < wideN a := by unfold wideN; omega
        rw [if_neg hwi] at hxc
        have hxc : wr.cell? ⟨g8, i, none⟩ = some (.int .u8 0) := hxc
        clear hwi
        go_wp2_with fail
        refine wp_flow (by kernel_rfl) [0, 0, 3, 7, 15, 31, 63, 15, 143, 399, 1023, 2047, 4095, 8191, 8191, 32767, 65535, 131071, 262143, 524287, 1048575, 2097151, 4194303] 23 [false, false, false, false, false, false, false, false, false, false, false, false, false, false, false, false, false, false, false, false, true, true, true, true, true, true, true, true, true, true, true, true, true, true, true, true, true, true, true, true, true, true, true] (by kernel_rfl) (by decide) (by kernel_rfl) [FP.eq (.int .i64 (i : Int)), FP.eq (.int .i64 a), FP.eq (.bool false), FP.eq (.bool false), FP.any, FP.any, FP.any, FP.any, FP.any, FP.any, FP.any, FP.eq (.bool false), FP.eq (.bool false), FP.eq (.int .i64 (i : Int)), FP.eq (.int .i64 a), FP.eq (.bool true), FP.eq (.bool true), FP.eq (.int .i64 (i : Int)), FP.eq (.pointer (some ⟨g8, i, none⟩)), FP.eq (.int .u8 0), FP.eq (.bool false), FP.eq (.bool false), FP.eq (.bool false)] ?_ ?_
        · refine allFrom_cons ?_ ?_
          · intro a_ w_ hk_
            have h9 : a_.eval (.tmp 9) = .int .i64 (i : Int) := hk_.old 9 (by kernel_rfl)
            have hx_ := hk_.ext
            clear hk_
            refine flow_plain rfl ?_
            exact gives_move rfl ⟨Below.refl _ _, h9⟩
          refine allFrom_cons ?_ ?_
          · intro a_ w_ hk_
            have h0 : a_.eval (.tmp 0) = .int .i64 a := hk_.old 0 (by kernel_rfl)
            have hx_ := hk_.ext
            clear hk_
            refine flow_plain rfl ?_
            exact gives_move rfl ⟨Below.refl _ _, h0⟩
          refine allFrom_cons ?_ ?_
          · intro a_ w_ hk_
            have h20 : a_.eval (.tmp 20) = (.int .i64 (i : Int)) := hk_.got 0 20 _ (by kernel_rfl) rfl rfl
            have h21 : a_.eval (.tmp 21) = (.int .i64 a) := hk_.got 1 21 _ (by kernel_rfl) rfl rfl
            have hx_ := hk_.ext
            clear hk_
            refine flow_plain rfl ?_
            unfold gives
            have hc_ : ∀ v, a_.eval (.const v) = v := fun _ => rfl
            have hn_ : ∀ f, a_.eval (.func f) = .func (.func f) #[] #[] := fun _ => rfl
            generalize a_.eval = ρ_ at *
            go_simp
            exact ⟨Below.refl _ _, congrArg Value.bool (decide_eq_false (by omega))⟩
          refine allFrom_cons ?_ ?_
          · intro a_ w_ hk_
            have h22 : a_.eval (.tmp 22) = (.bool false) := hk_.got 2 22 _ (by kernel_rfl) rfl rfl
            have hx_ := hk_.ext
            clear hk_
            refine flow_plain rfl ?_
            exact gives_move rfl ⟨Below.refl _ _, h22⟩
          refine allFrom_cons ?_ ?_
          · intro a_ w_ hk_
            have h9 : a_.eval (.tmp 9) = .int .i64 (i : Int) := hk_.old 9 (by kernel_rfl)
            have hg_ : a_.eval (.tmp 23) = .bool false := hk_.got 3 23 _ (by kernel_rfl) rfl rfl
            have hy_ := hk_.want 3 _ 23 false rfl rfl hg_
            have hx_ := hk_.ext
            clear hk_
            exact flow_skip rfl hy_ (by decide) trivial
          refine allFrom_cons ?_ ?_
          · intro a_ w_ hk_
            have h8 : a_.eval (.tmp 8) = .pointer (some ⟨g8, 0, none⟩) := hk_.old 8 (by kernel_rfl)
            have hg_ : a_.eval (.tmp 23) = .bool false := hk_.got 3 23 _ (by kernel_rfl) rfl rfl
            have hy_ := hk_.want 3 _ 23 false rfl rfl hg_
            have hx_ := hk_.ext
            clear hk_
            exact flow_skip rfl hy_ (by decide) trivial
          refine allFrom_cons ?_ ?_
          · intro a_ w_ hk_
            have hg_ : a_.eval (.tmp 23) = .bool false := hk_.got 3 23 _ (by kernel_rfl) rfl rfl
            have hy_ := hk_.want 3 _ 23 false rfl rfl hg_
            have hx_ := hk_.ext
            clear hk_
            exact flow_skip rfl hy_ (by decide) trivial
          refine allFrom_cons ?_ ?_
          · intro a_ w_ hk_
            have h9 : a_.eval (.tmp 9) = .int .i64 (i : Int) := hk_.old 9 (by kernel_rfl)
            have hg_ : a_.eval (.tmp 23) = .bool false := hk_.got 3 23 _ (by kernel_rfl) rfl rfl
            have hy_ := hk_.want 3 _ 23 false rfl rfl hg_
            have hx_ := hk_.ext
            clear hk_
            exact flow_skip rfl hy_ (by decide) trivial
          refine allFrom_cons ?_ ?_
          · intro a_ w_ hk_
            have h5 : a_.eval (.tmp 5) = .pointer (some ⟨w.heap.size, 0, none⟩) := hk_.old 5 (by kernel_rfl)
            have hg_ : a_.eval (.tmp 23) = .bool false := hk_.got 3 23 _ (by kernel_rfl) rfl rfl
            have hy_ := hk_.want 3 _ 23 false rfl rfl hg_
            have hx_ := hk_.ext
            clear hk_
            exact flow_skip rfl hy_ (by decide) trivial
          refine allFrom_cons ?_ ?_
          · intro a_ w_ hk_
            have hg_ : a_.eval (.tmp 23) = .bool false := hk_.got 3 23 _ (by kernel_rfl) rfl rfl
            have hy_ := hk_.want 3 _ 23 false rfl rfl hg_
            have hx_ := hk_.ext
            clear hk_
            exact flow_skip rfl hy_ (by decide) trivial
          refine allFrom_cons ?_ ?_
          · intro a_ w_ hk_
            have hg_ : a_.eval (.tmp 23) = .bool false := hk_.got 3 23 _ (by kernel_rfl) rfl rfl
            have hy_ := hk_.want 3 _ 23 false rfl rfl hg_
            have hx_ := hk_.ext
            clear hk_
            exact flow_skip rfl hy_ (by decide) trivial
          refine allFrom_cons ?_ ?_
          · intro a_ w_ hk_
            have h23 : a_.eval (.tmp 23) = (.bool false) := hk_.got 3 23 _ (by kernel_rfl) rfl rfl
            have hx_ := hk_.ext
            clear hk_
            refine flow_plain rfl ?_
            exact gives_pick rfl h23 ⟨Below.refl _ _, rfl⟩
          refine allFrom_cons ?_ ?_
          · intro a_ w_ hk_
            have h31 : a_.eval (.tmp 31) = (.bool false) := hk_.got 11 31 _ (by kernel_rfl) rfl rfl
            have hx_ := hk_.ext
            clear hk_
            refine flow_plain rfl ?_
            exact gives_move rfl ⟨Below.refl _ _, h31⟩
          refine allFrom_cons ?_ ?_
          · intro a_ w_ hk_
            have h9 : a_.eval (.tmp 9) = .int .i64 (i : Int) := hk_.old 9 (by kernel_rfl)
            have hg_ : a_.eval (.tmp 32) = .bool false := hk_.got 12 32 _ (by kernel_rfl) rfl rfl
            have hy_ := hk_.want 12 _ 32 false rfl rfl hg_
            have hx_ := hk_.ext
            clear hk_
            refine flow_want rfl hy_ ?_
            exact gives_move rfl ⟨Below.refl _ _, h9⟩
          refine allFrom_cons ?_ ?_
          · intro a_ w_ hk_
            have h0 : a_.eval (.tmp 0) = .int .i64 a := hk_.old 0 (by kernel_rfl)
            have hg_ : a_.eval (.tmp 32) = .bool false := hk_.got 12 32 _ (by kernel_rfl) rfl rfl
            have hy_ := hk_.want 12 _ 32 false rfl rfl hg_
            have hx_ := hk_.ext
            clear hk_
            refine flow_want rfl hy_ ?_
            exact gives_move rfl ⟨Below.refl _ _, h0⟩
          refine allFrom_cons ?_ ?_
          · intro a_ w_ hk_
            have h33 : a_.eval (.tmp 33) = (.int .i64 (i : Int)) := hk_.got 13 33 _ (by kernel_rfl) rfl rfl
            have h34 : a_.eval (.tmp 34) = (.int .i64 a) := hk_.got 14 34 _ (by kernel_rfl) rfl rfl
            have hg_ : a_.eval (.tmp 32) = .bool false := hk_.got 12 32 _ (by kernel_rfl) rfl rfl
            have hy_ := hk_.want 12 _ 32 false rfl rfl hg_
            have hx_ := hk_.ext
            clear hk_
            refine flow_want rfl hy_ ?_
            unfold gives
            have hc_ : ∀ v, a_.eval (.const v) = v := fun _ => rfl
            have hn_ : ∀ f, a_.eval (.func f) = .func (.func f) #[] #[] := fun _ => rfl
            clear hy_ hg_
            generalize a_.eval = ρ_ at *
            go_simp
            exact ⟨Below.refl _ _, rfl⟩
          refine allFrom_cons ?_ ?_
          · intro a_ w_ hk_
            have h35 : a_.eval (.tmp 35) = (.bool true) := hk_.got 15 35 _ (by kernel_rfl) rfl rfl
            have hg_ : a_.eval (.tmp 32) = .bool false := hk_.got 12 32 _ (by kernel_rfl) rfl rfl
            have hy_ := hk_.want 12 _ 32 false rfl rfl hg_
            have hx_ := hk_.ext
            clear hk_
            refine flow_want rfl hy_ ?_
            exact gives_move rfl ⟨Below.refl _ _, h35⟩
          refine allFrom_cons ?_ ?_
          · intro a_ w_ hk_
            have h9 : a_.eval (.tmp 9) = .int .i64 (i : Int) := hk_.old 9 (by kernel_rfl)
            have hg_ : a_.eval (.tmp 36) = .bool true := hk_.got 16 36 _ (by kernel_rfl) rfl rfl
            have hy_ := hk_.want 16 _ 36 true rfl rfl hg_
            have hx_ := hk_.ext
            clear hk_
            refine flow_want rfl hy_ ?_
            exact gives_move rfl ⟨Below.refl _ _, h9⟩
          refine allFrom_cons ?_ ?_
          · intro a_ w_ hk_
            have h8 : a_.eval (.tmp 8) = .pointer (some ⟨g8, 0, none⟩) := hk_.old 8 (by kernel_rfl)
            have h37 : a_.eval (.tmp 37) = (.int .i64 (i : Int)) := hk_.got 17 37 _ (by kernel_rfl) rfl rfl
            have hg_ : a_.eval (.tmp 36) = .bool true := hk_.got 16 36 _ (by kernel_rfl) rfl rfl
            have hy_ := hk_.want 16 _ 36 true rfl rfl hg_
            have hx_ := hk_.ext
            clear hk_
            refine flow_want rfl hy_ ?_
            unfold gives
            have hc_ : ∀ v, a_.eval (.const v) = v := fun _ => rfl
            have hn_ : ∀ f, a_.eval (.func f) = .func (.func f) #[] #[] := fun _ => rfl
            clear hy_ hg_
            generalize a_.eval = ρ_ at *
            go_simp
            exact ⟨Below.refl _ _, rfl⟩
          refine allFrom_cons ?_ ?_
          · intro a_ w_ hk_
            have h38 : a_.eval (.tmp 38) = (.pointer (some ⟨g8, i, none⟩)) := hk_.got 18 38 _ (by kernel_rfl) rfl rfl
            have hg_ : a_.eval (.tmp 36) = .bool true := hk_.got 16 36 _ (by kernel_rfl) rfl rfl
            have hy_ := hk_.want 16 _ 36 true rfl rfl hg_
            have hx_ := hk_.ext
            clear hk_
            refine flow_want rfl hy_ ?_
            unfold gives
            have hc_ : ∀ v, a_.eval (.const v) = v := fun _ => rfl
            have hn_ : ∀ f, a_.eval (.func f) = .func (.func f) #[] #[] := fun _ => rfl
            clear hy_ hg_
            have hcell := (hx_.cell (p := ⟨g8, i, none⟩) hxlt).trans hxc
            generalize a_.eval = ρ_ at *
            go_simp
            exact ⟨Below.refl _ _, rfl⟩
          refine allFrom_cons ?_ ?_
          · intro a_ w_ hk_
            have h39 : a_.eval (.tmp 39) = (.int .u8 0) := hk_.got 19 39 _ (by kernel_rfl) rfl rfl
            have hg_ : a_.eval (.tmp 36) = .bool true := hk_.got 16 36 _ (by kernel_rfl) rfl rfl
            have hy_ := hk_.want 16 _ 36 true rfl rfl hg_
            have hx_ := hk_.ext
            clear hk_
            refine flow_want rfl hy_ ?_
            unfold gives
            have hc_ : ∀ v, a_.eval (.const v) = v := fun _ => rfl
            have hn_ : ∀ f, a_.eval (.func f) = .func (.func f) #[] #[] := fun _ => rfl
            clear hy_ hg_
            generalize a_.eval = ρ_ at *
            go_simp
            exact ⟨Below.refl _ _, rfl⟩
          refine allFrom_cons ?_ ?_
          · intro a_ w_ hk_
            have h36 : a_.eval (.tmp 36) = (.bool true) := hk_.got 16 36 _ (by kernel_rfl) rfl rfl
            have h40 : a_.eval (.tmp 40) = (.bool false) := hk_.got 20 40 _ (by kernel_rfl) rfl rfl
            have hg_ : a_.eval (.tmp 32) = .bool false := hk_.got 12 32 _ (by kernel_rfl) rfl rfl
            have hy_ := hk_.want 12 _ 32 false rfl rfl hg_
            have hx_ := hk_.ext
            clear hk_
            refine flow_want rfl hy_ ?_
            exact gives_pick rfl h36 ⟨Below.refl _ _, h40⟩
          refine allFrom_cons ?_ ?_
          · intro a_ w_ hk_
            have h32 : a_.eval (.tmp 32) = (.bool false) := hk_.got 12 32 _ (by kernel_rfl) rfl rfl
            have h41 : a_.eval (.tmp 41) = (.bool false) := hk_.got 21 41 _ (by kernel_rfl) rfl rfl
            have hx_ := hk_.ext
            clear hk_
            refine flow_plain rfl ?_
            exact gives_pick rfl h32 ⟨Below.refl _ _, h41⟩
          exact allFrom_nil
        intro f_ w_ hx_ hf_
        have h20 : f_ 20 = (.int .i64 (i : Int)) := hf_ 0 20 _ (by decide) rfl rfl
        have h21 : f_ 21 = (.int .i64 a) := hf_ 1 21 _ (by decide) rfl rfl
        have h22 : f_ 22 = (.bool false) := hf_ 2 22 _ (by decide) rfl rfl
        have h23 : f_ 23 = (.bool false) := hf_ 3 23 _ (by decide) rfl rfl
        have h31 : f_ 31 = (.bool false) := hf_ 11 31 _ (by decide) rfl rfl
        have h32 : f_ 32 = (.bool false) := hf_ 12 32 _ (by decide) rfl rfl
        have h33 : f_ 33 = (.int .i64 (i : Int)) := hf_ 13 33 _ (by decide) rfl rfl
        have h34 : f_ 34 = (.int .i64 a) := hf_ 14 34 _ (by decide) rfl rfl
        have h35 : f_ 35 = (.bool true) := hf_ 15 35 _ (by decide) rfl rfl
        have h36 : f_ 36 = (.bool true) := hf_ 16 36 _ (by decide) rfl rfl
        have h37 : f_ 37 = (.int .i64 (i : Int)) := hf_ 17 37 _ (by decide) rfl rfl
        have h38 : f_ 38 = (.pointer (some ⟨g8, i, none⟩)) := hf_ 18 38 _ (by decide) rfl rfl
        have h39 : f_ 39 = (.int .u8 0) := hf_ 19 39 _ (by decide) rfl rfl
        have h40 : f_ 40 = (.bool false) := hf_ 20 40 _ (by decide) rfl rfl
        have h41 : f_ 41 = (.bool false) := hf_ 21 41 _ (by decide) rfl rfl
        have h42 : f_ 42 = (.bool false) := hf_ 22 42 _ (by decide) rfl rfl
        simp only [mix, List.drop_succ_cons, List.drop_zero, h20, h21, h22, h23, h31, h32, h33, h34, h35, h36, h37, h38, h39, h40, h41, h42]
        clear h20 h21 h22 h23 h31 h32 h33 h34 h35 h36 h37 h38 h39 h40 h41 h42
        clear hf_
        have hk2 := hk.below hx_ hk.lt
        have hx2 := hx.below hx_ hx.lt
        have hb2 := bx_trans hbr hx_
        clear hx_ hxc hkc
        go_wp2
        go_roundw
        case rel => exact ⟨i + 1, by omega, by go_num, hk2, hx2, hb2⟩
        case measure => simp [intOf]; omega
    · have hi32 : ¬ (i : Int) < 32 := by omega
      obtain ⟨mn, hmn⟩ : ∃ mn, mn = min a b := ⟨_, rfl⟩
      obtain ⟨Y, hY⟩ : ∃ Y, Y = cutL (wideN b) X := ⟨_, rfl⟩
      have hY2 : cutL (wideN mn) h = Y := by rw [hY, HX.out, hmn, cutL_cutL]
      have hYl : Y.length = 32 := by rw [hY]; exact cutL_len _ _ hxl
      have hZl := zeroL_len
      have HC1 := hid (fun W => Cut_any W b hxl)
      have HC2 := hid (fun W => Cut_any W mn hh)
      have HC3 := hid (fun W => Cut_any W 32 hh)
      have HC4 := hid (fun W => Cut_any W 0 hh)
      rw [← hY] at HC1
      rw [hY2] at HC2
      rw [wide32, cutL_all (by omega)] at HC3
      rw [cutL_none hh] at HC4
      have heq1 := eq_hash Y Y hYl hYl
      have heq2 := eq_hash h h hh hh
      have heq3 := eq_hash zeroL zeroL hZl hZl
      rw [show (Y == Y) = true by simp] at heq1
      rw [show (h == h) = true by simp] at heq2
      rw [show (zeroL == zeroL) = true by simp] at heq3
      have HZ := hid zeroL_cb
      generalize zeroL = Z at *
      have HMN := hid hmn
      have hax := aggHL hxl
      clear hY hY2 hmn
      go_wp2_with fail
      refine wp_flow (by kernel_rfl) [0, 0, 3, 0, 0, 24, 0, 127, 255, 511, 1023, 2047, 1023, 8191, 16383, 32767, 65535, 131071, 65535, 524287, 1048575, 2097151] 21 [false, false, false, false, false, false, false, false, false, false, false, false, false, false, false, false, false, false, false, false, false, false, false, false, false, false, false, false, false, false, false, false, false, false, false, false, false, false, false, false, false, false, false, true, true, true, true, true, true, true, true, true, true, true, true, true, true, true, true, true, true, true, true, true] (by kernel_rfl) (by decide) (by kernel_rfl) [FP.eq (.int .i64 b), FP.eq (.agg (X.map cb).toArray), FP.eq (.agg (Y.map cb).toArray), FP.eq (.int .i64 a), FP.eq (.int .i64 b), FP.eq (.int .i64 mn), FP.eq (.agg (h.map cb).toArray), FP.eq (.agg (Y.map cb).toArray), FP.eq (.bool true), FP.eq (.bool true), FP.eq (.agg (h.map cb).toArray), FP.eq (.agg (h.map cb).toArray), FP.eq (.agg (h.map cb).toArray), FP.eq (.bool true), FP.eq (.bool true), FP.eq (.bool true), FP.eq (.agg (h.map cb).toArray), FP.eq (.agg (Z.map cb).toArray), FP.eq (.agg (Z.map cb).toArray), FP.eq (.bool true), FP.eq (.bool true)] ?_ ?_
      · refine allFrom_cons ?_ ?_
        · intro a_ w_ hk_
          have h1 : a_.eval (.tmp 1) = .int .i64 b := hk_.old 1 (by kernel_rfl)
          have hx_ := hk_.ext
          clear hk_
          refine flow_plain rfl ?_
          exact gives_move rfl ⟨Below.refl _ _, h1⟩
        refine allFrom_cons ?_ ?_
        · intro a_ w_ hk_
          have h8 : a_.eval (.tmp 8) = .pointer (some ⟨g8, 0, none⟩) := hk_.old 8 (by kernel_rfl)
          have hx_ := hk_.ext
          clear hk_
          refine flow_plain rfl ?_
          exact gives_ldC rfl h8 hax (blk_cells (hx.below hx_ hx.lt)) ⟨Below.refl _ _, rfl⟩
        refine allFrom_cons ?_ ?_
        · intro a_ w_ hk_
          have h43 : a_.eval (.tmp 43) = (.int .i64 b) := hk_.got 0 43 _ (by kernel_rfl) rfl rfl
          have h44 : a_.eval (.tmp 44) = (.agg (X.map cb).toArray) := hk_.got 1 44 _ (by kernel_rfl) rfl rfl
          have hx_ := hk_.ext
          clear hk_
          refine flow_plain rfl ?_
          unfold gives
          have hc_ : ∀ v, a_.eval (.const v) = v := fun _ => rfl
          have hn_ : ∀ f, a_.eval (.func f) = .func (.func f) #[] #[] := fun _ => rfl
          generalize a_.eval = ρ_ at *
          go_simp
          exact (HC1.out w_).mono fun e w' hh => ⟨_, hh.1, hh.2, rfl⟩
        refine allFrom_cons ?_ ?_
        · intro a_ w_ hk_
          have h0 : a_.eval (.tmp 0) = .int .i64 a := hk_.old 0 (by kernel_rfl)
          have hx_ := hk_.ext
          clear hk_
          refine flow_plain rfl ?_
          exact gives_move rfl ⟨Below.refl _ _, h0⟩
        refine allFrom_cons ?_ ?_
        · intro a_ w_ hk_
          have h1 : a_.eval (.tmp 1) = .int .i64 b := hk_.old 1 (by kernel_rfl)
          have hx_ := hk_.ext
          clear hk_
          refine flow_plain rfl ?_
          exact gives_move rfl ⟨Below.refl _ _, h1⟩
        refine allFrom_cons ?_ ?_
        · intro a_ w_ hk_
          have h46 : a_.eval (.tmp 46) = (.int .i64 a) := hk_.got 3 46 _ (by kernel_rfl) rfl rfl
          have h47 : a_.eval (.tmp 47) = (.int .i64 b) := hk_.got 4 47 _ (by kernel_rfl) rfl rfl
          have hx_ := hk_.ext
          clear hk_
          refine flow_plain rfl ?_
          unfold gives
          have hc_ : ∀ v, a_.eval (.const v) = v := fun _ => rfl
          have hn_ : ∀ f, a_.eval (.func f) = .func (.func f) #[] #[] := fun _ => rfl
          generalize a_.eval = ρ_ at *
          go_simp
          exact ⟨Below.refl _ _, congrArg (Value.int IntKind.i64) (by rw [HMN.out]; split <;> omega)⟩
        refine allFrom_cons ?_ ?_
        · intro a_ w_ hk_
          have h5 : a_.eval (.tmp 5) = .pointer (some ⟨w.heap.size, 0, none⟩) := hk_.old 5 (by kernel_rfl)
          have hx_ := hk_.ext
          clear hk_
          refine flow_plain rfl ?_
          exact gives_ldC rfl h5 hah (blk_cells (hk.below hx_ hk.lt)) ⟨Below.refl _ _, rfl⟩
        refine allFrom_cons ?_ ?_
        · intro a_ w_ hk_
          have h48 : a_.eval (.tmp 48) = (.int .i64 mn) := hk_.got 5 48 _ (by kernel_rfl) rfl rfl
          have h49 : a_.eval (.tmp 49) = (.agg (h.map cb).toArray) := hk_.got 6 49 _ (by kernel_rfl) rfl rfl
          have hx_ := hk_.ext
          clear hk_
          refine flow_plain rfl ?_
          unfold gives
          have hc_ : ∀ v, a_.eval (.const v) = v := fun _ => rfl
          have hn_ : ∀ f, a_.eval (.func f) = .func (.func f) #[] #[] := fun _ => rfl
          generalize a_.eval = ρ_ at *
          go_simp
          exact (HC2.out w_).mono fun e w' hh => ⟨_, hh.1, hh.2, rfl⟩
        refine allFrom_cons ?_ ?_
        · intro a_ w_ hk_
          have h45 : a_.eval (.tmp 45) = (.agg (Y.map cb).toArray) := hk_.got 2 45 _ (by kernel_rfl) rfl rfl
          have h50 : a_.eval (.tmp 50) = (.agg (Y.map cb).toArray) := hk_.got 7 50 _ (by kernel_rfl) rfl rfl
          have hx_ := hk_.ext
          clear hk_
          refine flow_plain rfl ?_
          unfold gives
          have hc_ : ∀ v, a_.eval (.const v) = v := fun _ => rfl
          have hn_ : ∀ f, a_.eval (.func f) = .func (.func f) #[] #[] := fun _ => rfl
          generalize a_.eval = ρ_ at *
          go_simp
          exact ⟨Below.refl _ _, rfl⟩
        refine allFrom_cons ?_ ?_
        · intro a_ w_ hk_
          have h51 : a_.eval (.tmp 51) = (.bool true) := hk_.got 8 51 _ (by kernel_rfl) rfl rfl
          have hx_ := hk_.ext
          clear hk_
          refine flow_plain rfl ?_
          exact gives_move rfl ⟨Below.refl _ _, h51⟩
        refine allFrom_cons ?_ ?_
        · intro a_ w_ hk_
          have h5 : a_.eval (.tmp 5) = .pointer (some ⟨w.heap.size, 0, none⟩) := hk_.old 5 (by kernel_rfl)
          have hg_ : a_.eval (.tmp 52) = .bool true := hk_.got 9 52 _ (by kernel_rfl) rfl rfl
          have hy_ := hk_.want 9 _ 52 true rfl rfl hg_
          have hx_ := hk_.ext
          clear hk_
          refine flow_want rfl hy_ ?_
          exact gives_ldC rfl h5 hah (blk_cells (hk.below hx_ hk.lt)) ⟨Below.refl _ _, rfl⟩
        refine allFrom_cons ?_ ?_
        · intro a_ w_ hk_
          have h53 : a_.eval (.tmp 53) = (.agg (h.map cb).toArray) := hk_.got 10 53 _ (by kernel_rfl) rfl rfl
          have hg_ : a_.eval (.tmp 52) = .bool true := hk_.got 9 52 _ (by kernel_rfl) rfl rfl
          have hy_ := hk_.want 9 _ 52 true rfl rfl hg_
          have hx_ := hk_.ext
          clear hk_
          refine flow_want rfl hy_ ?_
          unfold gives
          have hc_ : ∀ v, a_.eval (.const v) = v := fun _ => rfl
          have hn_ : ∀ f, a_.eval (.func f) = .func (.func f) #[] #[] := fun _ => rfl
          clear hy_ hg_
          generalize a_.eval = ρ_ at *
          go_simp
          exact (HC3.out w_).mono fun e w' hh => ⟨_, hh.1, hh.2, rfl⟩
        refine allFrom_cons ?_ ?_
        · intro a_ w_ hk_
          have h5 : a_.eval (.tmp 5) = .pointer (some ⟨w.heap.size, 0, none⟩) := hk_.old 5 (by kernel_rfl)
          have hg_ : a_.eval (.tmp 52) = .bool true := hk_.got 9 52 _ (by kernel_rfl) rfl rfl
          have hy_ := hk_.want 9 _ 52 true rfl rfl hg_
          have hx_ := hk_.ext
          clear hk_
          refine flow_want rfl hy_ ?_
          exact gives_ldC rfl h5 hah (blk_cells (hk.below hx_ hk.lt)) ⟨Below.refl _ _, rfl⟩
        refine allFrom_cons ?_ ?_
        · intro a_ w_ hk_
          have h54 : a_.eval (.tmp 54) = (.agg (h.map cb).toArray) := hk_.got 11 54 _ (by kernel_rfl) rfl rfl
          have h55 : a_.eval (.tmp 55) = (.agg (h.map cb).toArray) := hk_.got 12 55 _ (by kernel_rfl) rfl rfl
          have hg_ : a_.eval (.tmp 52) = .bool true := hk_.got 9 52 _ (by kernel_rfl) rfl rfl
          have hy_ := hk_.want 9 _ 52 true rfl rfl hg_
          have hx_ := hk_.ext
          clear hk_
          refine flow_want rfl hy_ ?_
          unfold gives
          have hc_ : ∀ v, a_.eval (.const v) = v := fun _ => rfl
          have hn_ : ∀ f, a_.eval (.func f) = .func (.func f) #[] #[] := fun _ => rfl
          clear hy_ hg_
          generalize a_.eval = ρ_ at *
          go_simp
          exact ⟨Below.refl _ _, rfl⟩
        refine allFrom_cons ?_ ?_
        · intro a_ w_ hk_
          have h52 : a_.eval (.tmp 52) = (.bool true) := hk_.got 9 52 _ (by kernel_rfl) rfl rfl
          have h56 : a_.eval (.tmp 56) = (.bool true) := hk_.got 13 56 _ (by kernel_rfl) rfl rfl
          have hx_ := hk_.ext
          clear hk_
          refine flow_plain rfl ?_
          exact gives_pick rfl h52 ⟨Below.refl _ _, h56⟩
        refine allFrom_cons ?_ ?_
        · intro a_ w_ hk_
          have h57 : a_.eval (.tmp 57) = (.bool true) := hk_.got 14 57 _ (by kernel_rfl) rfl rfl
          have hx_ := hk_.ext
          clear hk_
          refine flow_plain rfl ?_
          exact gives_move rfl ⟨Below.refl _ _, h57⟩
        refine allFrom_cons ?_ ?_
        · intro a_ w_ hk_
          have h5 : a_.eval (.tmp 5) = .pointer (some ⟨w.heap.size, 0, none⟩) := hk_.old 5 (by kernel_rfl)
          have hg_ : a_.eval (.tmp 58) = .bool true := hk_.got 15 58 _ (by kernel_rfl) rfl rfl
          have hy_ := hk_.want 15 _ 58 true rfl rfl hg_
          have hx_ := hk_.ext
          clear hk_
          refine flow_want rfl hy_ ?_
          exact gives_ldC rfl h5 hah (blk_cells (hk.below hx_ hk.lt)) ⟨Below.refl _ _, rfl⟩
        refine allFrom_cons ?_ ?_
        · intro a_ w_ hk_
          have h59 : a_.eval (.tmp 59) = (.agg (h.map cb).toArray) := hk_.got 16 59 _ (by kernel_rfl) rfl rfl
          have hg_ : a_.eval (.tmp 58) = .bool true := hk_.got 15 58 _ (by kernel_rfl) rfl rfl
          have hy_ := hk_.want 15 _ 58 true rfl rfl hg_
          have hx_ := hk_.ext
          clear hk_
          refine flow_want rfl hy_ ?_
          unfold gives
          have hc_ : ∀ v, a_.eval (.const v) = v := fun _ => rfl
          have hn_ : ∀ f, a_.eval (.func f) = .func (.func f) #[] #[] := fun _ => rfl
          clear hy_ hg_
          generalize a_.eval = ρ_ at *
          go_simp
          exact (HC4.out w_).mono fun e w' hh => ⟨_, hh.1, hh.2, rfl⟩
        refine allFrom_cons ?_ ?_
        · intro a_ w_ hk_
          have hg_ : a_.eval (.tmp 58) = .bool true := hk_.got 15 58 _ (by kernel_rfl) rfl rfl
          have hy_ := hk_.want 15 _ 58 true rfl rfl hg_
          have hx_ := hk_.ext
          clear hk_
          refine flow_want rfl hy_ ?_
          exact gives_blt0 rfl ⟨Below.refl _ _, by rw [HZ.out]; rfl⟩
        refine allFrom_cons ?_ ?_
        · intro a_ w_ hk_
          have h60 : a_.eval (.tmp 60) = (.agg (Z.map cb).toArray) := hk_.got 17 60 _ (by kernel_rfl) rfl rfl
          have h61 : a_.eval (.tmp 61) = (.agg (Z.map cb).toArray) := hk_.got 18 61 _ (by kernel_rfl) rfl rfl
          have hg_ : a_.eval (.tmp 58) = .bool true := hk_.got 15 58 _ (by kernel_rfl) rfl rfl
          have hy_ := hk_.want 15 _ 58 true rfl rfl hg_
          have hx_ := hk_.ext
          clear hk_
          refine flow_want rfl hy_ ?_
          unfold gives
          have hc_ : ∀ v, a_.eval (.const v) = v := fun _ => rfl
          have hn_ : ∀ f, a_.eval (.func f) = .func (.func f) #[] #[] := fun _ => rfl
          clear hy_ hg_
          generalize a_.eval = ρ_ at *
          go_simp
          exact ⟨Below.refl _ _, rfl⟩
        refine allFrom_cons ?_ ?_
        · intro a_ w_ hk_
          have h58 : a_.eval (.tmp 58) = (.bool true) := hk_.got 15 58 _ (by kernel_rfl) rfl rfl
          have h62 : a_.eval (.tmp 62) = (.bool true) := hk_.got 19 62 _ (by kernel_rfl) rfl rfl
          have hx_ := hk_.ext
          clear hk_
          refine flow_plain rfl ?_
          exact gives_pick rfl h58 ⟨Below.refl _ _, h62⟩
        exact allFrom_nil
      intro f_ w_ hx_ hf_
      have h43 : f_ 43 = (.int .i64 b) := hf_ 0 43 _ (by decide) rfl rfl
      have h44 : f_ 44 = (.agg (X.map cb).toArray) := hf_ 1 44 _ (by decide) rfl rfl
      have h45 : f_ 45 = (.agg (Y.map cb).toArray) := hf_ 2 45 _ (by decide) rfl rfl
      have h46 : f_ 46 = (.int .i64 a) := hf_ 3 46 _ (by decide) rfl rfl
      have h47 : f_ 47 = (.int .i64 b) := hf_ 4 47 _ (by decide) rfl rfl
      have h48 : f_ 48 = (.int .i64 mn) := hf_ 5 48 _ (by decide) rfl rfl
      have h49 : f_ 49 = (.agg (h.map cb).toArray) := hf_ 6 49 _ (by decide) rfl rfl
      have h50 : f_ 50 = (.agg (Y.map cb).toArray) := hf_ 7 50 _ (by decide) rfl rfl
      have h51 : f_ 51 = (.bool true) := hf_ 8 51 _ (by decide) rfl rfl
      have h52 : f_ 52 = (.bool true) := hf_ 9 52 _ (by decide) rfl rfl
      have h53 : f_ 53 = (.agg (h.map cb).toArray) := hf_ 10 53 _ (by decide) rfl rfl
      have h54 : f_ 54 = (.agg (h.map cb).toArray) := hf_ 11 54 _ (by decide) rfl rfl
      have h55 : f_ 55 = (.agg (h.map cb).toArray) := hf_ 12 55 _ (by decide) rfl rfl
      have h56 : f_ 56 = (.bool true) := hf_ 13 56 _ (by decide) rfl rfl
      have h57 : f_ 57 = (.bool true) := hf_ 14 57 _ (by decide) rfl rfl
      have h58 : f_ 58 = (.bool true) := hf_ 15 58 _ (by decide) rfl rfl
      have h59 : f_ 59 = (.agg (h.map cb).toArray) := hf_ 16 59 _ (by decide) rfl rfl
      have h60 : f_ 60 = (.agg (Z.map cb).toArray) := hf_ 17 60 _ (by decide) rfl rfl
      have h61 : f_ 61 = (.agg (Z.map cb).toArray) := hf_ 18 61 _ (by decide) rfl rfl
      have h62 : f_ 62 = (.bool true) := hf_ 19 62 _ (by decide) rfl rfl
      have h63 : f_ 63 = (.bool true) := hf_ 20 63 _ (by decide) rfl rfl
      simp only [mix, List.drop_succ_cons, List.drop_zero, h43, h44, h45, h46, h47, h48, h49, h50, h51, h52, h53, h54, h55, h56, h57, h58, h59, h60, h61, h62, h63]
      clear h43 h44 h45 h46 h47 h48 h49 h50 h51 h52 h53 h54 h55 h56 h57 h58 h59 h60 h61 h62 h63
      clear hf_
      have hbf := bx_trans hbr hx_
      clear hx_
      go_wp2_with fail
      go_ret
      exact ⟨rfl, hbf⟩
end Go.Proofs.YtgaefejblmnklaaDoor
