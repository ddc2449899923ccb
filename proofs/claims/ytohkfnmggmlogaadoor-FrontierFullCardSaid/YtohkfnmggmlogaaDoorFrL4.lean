
/- FrontierFull: its walk. -/
import Derived.Test.YtohkfnmggmlogaaDoorFrR
import Derived.OpenShut
namespace Go.Proofs.YtohkfnmggmlogaaDoor
open Go.RowKit
set_option linter.unusedVariables false
theorem ones_full : ones 18446744073709551615 = 64 := by
  rw [← onesF_ones 64 _ (by decide)]
  decide
set_option maxRecDepth 100000 in
set_option maxHeartbeats 1000000 in
theorem FrontierFull_walk (w : World) (hL : Laid w) (x : List UInt8) (hx : x.length = 32) (A0 : Option Addr) (c0 : Nat) (l0 : List UInt8) (hc0 : l0.length ≤ c0) (hm0 : c0 ≤ maxLen) (hr0 : Rd w w.heap.size A0 (l0.map cb)) :
    Calls Tryd.prog 6 #[.agg (x.map cb).toArray, .slice A0 l0.length c0] w fun e w' => e = .returned (.bool true) ∧ Below w.heap.size w w' := by
  have HL := hid hL
  have HR := hid hr0
  clear hL hr0
  unfold maxLen at hm0
  have hb0 : Below w.heap.size w (w.alloc (.cells (x.map cb).toArray tHa)) := bx_alloc (Below.refl _ _) _
  have hA : Blk (w.alloc (.cells (x.map cb).toArray tHa)) w.heap.size tHa (x.map cb).toArray := Blk.new w _ _
  go_enter Tryd.func6, Tryd.ntmps6
  go_wp2_with fail
  refine (frAwake _ (HL.out.below hb0)).mono ?_
  rintro e w1 ⟨rfl, hb1⟩
  have hb01 := bx_trans hb0 hb1
  have hA1 := hA.below hb1 hA.lt
  clear hA hb0 hb1
  by_cases hlen : 100 < l0.length
  · go_wp2
    go_ret
    exact ⟨rfl, hb01⟩
  · go_wp2
    have hax := aggHL hx
    have hbs1 := hb01.size
    have hbt : decide (100 < l0.length) = false := decide_eq_false (by omega)
    try rw [hbt]
    clear hbt
    obtain ⟨gx, hgx⟩ : ∃ gx, gx = w.heap.size := ⟨_, rfl⟩
    rw [← hgx] at hA1 ⊢
    clear hgx
    go_loopw [6, 7] (fun v6 v7 wr => ∃ i : Nat, i ≤ 64 ∧ v7 = .int .i64 (i : Int) ∧ wr.ownsRow w1.heap.size tHa 32 v6 i ((List.replicate i x).flatten.map cb) ∧ Below w1.heap.size w1 wr) (fun _ v7 _ => 64 - (intOf v7).toNat)
    case atStart => exact ⟨0, by omega, rfl, World.ownsRow_nil _ _ _ _, Below.refl _ _⟩
    case round =>
      obtain ⟨i, hi, rfl, hown, hbr⟩ := hrel
      rename World => wr
      have hbr0 := bx_trans hb01 hbr
      have hAr := hA1.below hbr hA1.lt
      have hcx := blk_cells hAr
      by_cases hlt : i < 64
      · obtain ⟨A6, c6, rfl, _, _, _⟩ := own_form hown
        have hbn : Below wr.heap.size wr (wr.alloc (.cells (Value.agg (x.map cb).toArray).cells tHa)) := bx_alloc (Below.refl _ _) _
        have hown2 := own_keep hown hbn
        have hrd2 := rd_of_row (w := wr.alloc (.cells (Value.agg (x.map cb).toArray).cells tHa)) (heap_new rfl) (xs := x.map cb) rfl
        have h63 : i + 1 ≤ maxLen := by unfold maxLen; omega
        have hby : (i + 1) * 32 ≤ 140737488355328 := by omega
        have hb2 := hbr.trans (hbn.mono hbr.size)
        have hbs2 := hb2.size
        have HOW := hid hown2
        have HRD := hid hrd2
        clear hown hown2 hrd2 hbn
        go_wp2_with (first
          | ((with_reducible refine wpAtC ?_); refine wpList_loadG rfl _ _ rfl _ _ rfl (x.map cb) hax hcx ?_; simp only [Act.put, List.setIfInBounds_toArray, List.set_cons_succ, List.set_cons_zero])
          | ((with_reducible refine wpAtC ?_); refine wpList_gives rfl (gives_slice1 _ _ rfl _ rfl elHs (cells_cb hx) (by decide) (S := fun v w' => v = .slice (some ⟨wr.heap.size, 0, none⟩) 1 1 ∧ w' = wr.alloc (.cells (Value.agg (x.map cb).toArray).cells tHa)) ⟨rfl, rfl⟩) ?_; rintro v6 w6 ⟨rfl, rfl⟩; simp only [Act.put, List.setIfInBounds_toArray, List.set_cons_succ, List.set_cons_zero])
          | (at_builtin; refine wpList_app rfl _ _ _ rfl _ rfl _ _ _ rfl elHs HOW.out HRD.out (len_cb hx) (one_cb _) h63 hby hbs2 ?_; intro v7 w7 hown7 hg7 hat7))
        go_roundw
        case rel => exact ⟨i + 1, by omega, by go_num, by rw [List.replicate_succ', List.flatten_append, List.map_append, List.flatten_singleton]; exact hown7, own_below hb2 HOW.out hg7⟩
        case measure => simp [intOf]; omega
      · obtain rfl : i = 64 := by omega
        obtain ⟨A6, c6, rfl, hc6, hm6, hrd6⟩ := own_form hown
        have hrl : (List.replicate 64 x).length = 64 := List.length_replicate ..
        have hr32 : ∀ h ∈ List.replicate 64 x, h.length = 32 := fun h hh => by rw [List.eq_of_mem_replicate hh]; exact hx
        have hok := From_ok wr A6 c6 18446744073709551615 64 (hs := List.replicate 64 x) (by decide) (by decide) ones_full hrl hrd6 hr32
        have hno := fun w' => From_no w' A6 c6 18446744073709551615 63 (by decide) (by decide) (by rw [ones_full]; decide)
        have HOK := hid hok
        have HNO := hid hno
        have HRL := hid (show (List.replicate 64 x).reverse.length = 64 by rw [List.length_reverse, hrl])
        clear hrd6 hrl hr32 hok hno hown hcx hlt hi
        generalize (List.replicate 64 x).reverse = st at *
        go_wp2_with fail
        refine HOK.out.mono ?_
        rintro e w8 ⟨g8, A8, c8, rfl, hF8, hb8⟩
        have hb08 := bx_trans hbr0 hb8
        have HF8 := hid hF8
        clear hb8 hF8
        go_wp2_with fail
        refine (HNO.out _).mono ?_
        rintro e w9 ⟨rfl, rfl⟩
        have hst : st.length = ones 18446744073709551615 := by rw [HRL.out, ones_full]
        have HST := hid hst
        have hfl := froot_len st HF8.out.ok
        have hq := eq_hash (froot st) (froot st) hfl hfl
        rw [show (froot st == froot st) = true from by simp] at hq
        have HFR := hid (fun w' (hb : Below w9.heap.size w9 w') => FRoot_any w' (HL.out.below (bx_trans hb08 hb)) (HF8.out.below hb) hst (by decide))
        have HADD := hid (fun w' (hb : Below w9.heap.size w9 w') => Add_full w' (HF8.out.below hb) (.slice A0 l0.length c0))
        have HSZ := hid (fun w' (hb : Below w9.heap.size w9 w') => Size_any w' (HF8.out.below hb))
        have HPK := hid (fun w' (hb : Below w9.heap.size w9 w') => Peaks_any w' (HF8.out.below hb) (by rw [HRL.out]; decide))
        rw [HRL.out] at HPK
        generalize st.reverse.flatten.map cb = xs at HPK
        clear hst HNO HOK
        generalize froot st = R at *
        have hax2 := aggHL hfl
        go_wp2_with fail
        refine (HFR.out w9 (Below.refl _ _)).mono ?_
        rintro e w10 ⟨rfl, hb10⟩
        go_wp2_with (first
          | ((with_reducible refine wpAtC ?_); refine wpList_alloc (w := w10) rfl _ rfl zeroH ?_; intro g12 w12 hg12 hg12' hz12 hb12; simp only [Act.put, List.setIfInBounds_toArray, List.set_cons_succ, List.set_cons_zero])
          | ((with_reducible refine wpAtC ?_); refine wpList_store_agg rfl _ _ _ rfl _ _ rfl (R.map cb).toArray rfl (aggHS hfl) hz12 (szH hfl) (one_cbA R) ?_; intro w13 hp13; simp only [Act.put]; rw [splH hfl] at hp13))
        have hb913 := (bx_trans hb10 hb12).trans (hp13.below (Nat.le_trans hb10.size hg12))
        have hR13 := hp13.blk
        have hb013 := bx_trans hb08 hb913
        clear hb12 hz12 hp13 hb10
        refine (HADD.out w13 hb913).mono ?_
        rintro e w14 ⟨rfl, rfl⟩
        go_wp2_with fail
        refine wp_flow (by kernel_rfl) [0, 1, 3, 7, 15, 31, 63, 127, 255, 127, 1023, 2047, 4095, 8191, 16383, 32767, 65535, 131071, 262143, 524287, 1048575, 2097151, 4194303, 8388607] 23 [false, false, false, false, false, false, false, false, false, false, false, false, false, false, false, false, false, false, false, false, false, false, false, false, false, false, false, false, false, false, false, false, false, false, false, false, false, false, false, false, false, false, false, false, false, false, false, false, false, false, true, true, true, true, true, true, true, true, true, true, true, true, true, true, true, true, true, true, true, true, true, true, true] (by kernel_rfl) (by decide) (by kernel_rfl) [FP.eq (.int .i64 1), FP.eq (.bool true), FP.eq (.bool true), FP.eq (.int .i64 31), FP.eq (.bool true), FP.eq (.bool true), FP.eq (.bool true), FP.eq (.pointer (some ⟨g8, 0, none⟩)), FP.eq (.agg (R.map cb).toArray), FP.eq (.agg (R.map cb).toArray), FP.eq (.bool true), FP.eq (.bool true), FP.eq (.bool true), FP.eq (.pointer (some ⟨g8, 0, none⟩)), FP.eq (.int .u64 18446744073709551615), FP.eq (.bool true), FP.eq (.bool true), FP.eq (.bool true), FP.eq (.pointer (some ⟨g8, 0, none⟩)), FP.sl 64 xs, FP.eq (.int .i64 64), FP.eq (.bool true), FP.eq (.bool true)] ?_ ?_
        · refine allFrom_cons ?_ ?_
          · intro a_ w_ hk_
            have h11 : a_.eval (.tmp 11) = .int .i64 1 := hk_.old 11 (by kernel_rfl)
            have hx_ := hk_.ext
            clear hk_
            refine flow_plain rfl ?_
            exact gives_move rfl ⟨Below.refl _ _, h11⟩
          refine allFrom_cons ?_ ?_
          · intro a_ w_ hk_
            have h50 : a_.eval (.tmp 50) = (.int .i64 1) := hk_.got 0 50 _ (by kernel_rfl) rfl rfl
            have hx_ := hk_.ext
            clear hk_
            refine flow_plain rfl ?_
            unfold gives
            have hc_ : ∀ v, a_.eval (.const v) = v := fun _ => rfl
            have hn_ : ∀ f, a_.eval (.func f) = .func (.func f) #[] #[] := fun _ => rfl
            generalize a_.eval = ρ_ at *
            go_simp
            exact ⟨Below.refl _ _, rfl⟩
          refine allFrom_cons ?_ ?_
          · intro a_ w_ hk_
            have h51 : a_.eval (.tmp 51) = (.bool true) := hk_.got 1 51 _ (by kernel_rfl) rfl rfl
            have hx_ := hk_.ext
            clear hk_
            refine flow_plain rfl ?_
            exact gives_move rfl ⟨Below.refl _ _, h51⟩
          refine allFrom_cons ?_ ?_
          · intro a_ w_ hk_
            have h13 : a_.eval (.tmp 13) = .int .i64 31 := hk_.old 13 (by kernel_rfl)
            have hg_ : a_.eval (.tmp 52) = .bool true := hk_.got 2 52 _ (by kernel_rfl) rfl rfl
            have hy_ := hk_.want 2 _ 52 true rfl rfl hg_
            have hx_ := hk_.ext
            clear hk_
            refine flow_want rfl hy_ ?_
            exact gives_move rfl ⟨Below.refl _ _, h13⟩
          refine allFrom_cons ?_ ?_
          · intro a_ w_ hk_
            have h53 : a_.eval (.tmp 53) = (.int .i64 31) := hk_.got 3 53 _ (by kernel_rfl) rfl rfl
            have hg_ : a_.eval (.tmp 52) = .bool true := hk_.got 2 52 _ (by kernel_rfl) rfl rfl
            have hy_ := hk_.want 2 _ 52 true rfl rfl hg_
            have hx_ := hk_.ext
            clear hk_
            refine flow_want rfl hy_ ?_
            unfold gives
            have hc_ : ∀ v, a_.eval (.const v) = v := fun _ => rfl
            have hn_ : ∀ f, a_.eval (.func f) = .func (.func f) #[] #[] := fun _ => rfl
            clear hy_ hg_
            generalize a_.eval = ρ_ at *
            go_simp
            exact ⟨Below.refl _ _, rfl⟩
          refine allFrom_cons ?_ ?_
          · intro a_ w_ hk_
            have h52 : a_.eval (.tmp 52) = (.bool true) := hk_.got 2 52 _ (by kernel_rfl) rfl rfl
            have h54 : a_.eval (.tmp 54) = (.bool true) := hk_.got 4 54 _ (by kernel_rfl) rfl rfl
            have hx_ := hk_.ext
            clear hk_
            refine flow_plain rfl ?_
            exact gives_pick rfl h52 ⟨Below.refl _ _, h54⟩
          refine allFrom_cons ?_ ?_
          · intro a_ w_ hk_
            have h55 : a_.eval (.tmp 55) = (.bool true) := hk_.got 5 55 _ (by kernel_rfl) rfl rfl
            have hx_ := hk_.ext
            clear hk_
            refine flow_plain rfl ?_
            exact gives_move rfl ⟨Below.refl _ _, h55⟩
          refine allFrom_cons ?_ ?_
          · intro a_ w_ hk_
            have h8 : a_.eval (.tmp 8) = .pointer (some ⟨g8, 0, none⟩) := hk_.old 8 (by kernel_rfl)
            have hg_ : a_.eval (.tmp 56) = .bool true := hk_.got 6 56 _ (by kernel_rfl) rfl rfl
            have hy_ := hk_.want 6 _ 56 true rfl rfl hg_
            have hx_ := hk_.ext
            clear hk_
            refine flow_want rfl hy_ ?_
            exact gives_move rfl ⟨Below.refl _ _, h8⟩
          refine allFrom_cons ?_ ?_
          · intro a_ w_ hk_
            have h57 : a_.eval (.tmp 57) = (.pointer (some ⟨g8, 0, none⟩)) := hk_.got 7 57 _ (by kernel_rfl) rfl rfl
            have hg_ : a_.eval (.tmp 56) = .bool true := hk_.got 6 56 _ (by kernel_rfl) rfl rfl
            have hy_ := hk_.want 6 _ 56 true rfl rfl hg_
            have hx_ := hk_.ext
            clear hk_
            refine flow_want rfl hy_ ?_
            unfold gives
            have hc_ : ∀ v, a_.eval (.const v) = v := fun _ => rfl
            have hn_ : ∀ f, a_.eval (.func f) = .func (.func f) #[] #[] := fun _ => rfl
            clear hy_ hg_
            generalize a_.eval = ρ_ at *
            go_simp
            exact (HFR.out w_ (bx_trans hb913 hx_)).mono fun e w' hh => ⟨_, hh.1, hh.2, rfl⟩
          refine allFrom_cons ?_ ?_
          · intro a_ w_ hk_
            have h12 : a_.eval (.tmp 12) = .pointer (some ⟨g12, 0, none⟩) := hk_.old 12 (by kernel_rfl)
            have hg_ : a_.eval (.tmp 56) = .bool true := hk_.got 6 56 _ (by kernel_rfl) rfl rfl
            have hy_ := hk_.want 6 _ 56 true rfl rfl hg_
            have hx_ := hk_.ext
            clear hk_
            refine flow_want rfl hy_ ?_
            exact gives_ldC rfl h12 hax2 (blk_cells (hR13.below hx_ hR13.lt)) ⟨Below.refl _ _, rfl⟩
          refine allFrom_cons ?_ ?_
          · intro a_ w_ hk_
            have h58 : a_.eval (.tmp 58) = (.agg (R.map cb).toArray) := hk_.got 8 58 _ (by kernel_rfl) rfl rfl
            have h59 : a_.eval (.tmp 59) = (.agg (R.map cb).toArray) := hk_.got 9 59 _ (by kernel_rfl) rfl rfl
            have hg_ : a_.eval (.tmp 56) = .bool true := hk_.got 6 56 _ (by kernel_rfl) rfl rfl
            have hy_ := hk_.want 6 _ 56 true rfl rfl hg_
            have hx_ := hk_.ext
            clear hk_
            refine flow_want rfl hy_ ?_
            unfold gives
            have hc_ : ∀ v, a_.eval (.const v) = v := fun _ => rfl
            have hn_ : ∀ f, a_.eval (.func f) = .func (.func f) #[] #[] := fun _ => rfl
            clear hy_ hg_
            generalize a_.eval = ρ_ at *
            go_simp
            exact ⟨Below.refl _ _, rfl⟩
          refine allFrom_cons ?_ ?_
          · intro a_ w_ hk_
            have h56 : a_.eval (.tmp 56) = (.bool true) := hk_.got 6 56 _ (by kernel_rfl) rfl rfl
            have h60 : a_.eval (.tmp 60) = (.bool true) := hk_.got 10 60 _ (by kernel_rfl) rfl rfl
            have hx_ := hk_.ext
            clear hk_
            refine flow_plain rfl ?_
            exact gives_pick rfl h56 ⟨Below.refl _ _, h60⟩
          refine allFrom_cons ?_ ?_
          · intro a_ w_ hk_
            have h61 : a_.eval (.tmp 61) = (.bool true) := hk_.got 11 61 _ (by kernel_rfl) rfl rfl
            have hx_ := hk_.ext
            clear hk_
            refine flow_plain rfl ?_
            exact gives_move rfl ⟨Below.refl _ _, h61⟩
          refine allFrom_cons ?_ ?_
          · intro a_ w_ hk_
            have h8 : a_.eval (.tmp 8) = .pointer (some ⟨g8, 0, none⟩) := hk_.old 8 (by kernel_rfl)
            have hg_ : a_.eval (.tmp 62) = .bool true := hk_.got 12 62 _ (by kernel_rfl) rfl rfl
            have hy_ := hk_.want 12 _ 62 true rfl rfl hg_
            have hx_ := hk_.ext
            clear hk_
            refine flow_want rfl hy_ ?_
            exact gives_move rfl ⟨Below.refl _ _, h8⟩
          refine allFrom_cons ?_ ?_
          · intro a_ w_ hk_
            have h63 : a_.eval (.tmp 63) = (.pointer (some ⟨g8, 0, none⟩)) := hk_.got 13 63 _ (by kernel_rfl) rfl rfl
            have hg_ : a_.eval (.tmp 62) = .bool true := hk_.got 12 62 _ (by kernel_rfl) rfl rfl
            have hy_ := hk_.want 12 _ 62 true rfl rfl hg_
            have hx_ := hk_.ext
            clear hk_
            refine flow_want rfl hy_ ?_
            unfold gives
            have hc_ : ∀ v, a_.eval (.const v) = v := fun _ => rfl
            have hn_ : ∀ f, a_.eval (.func f) = .func (.func f) #[] #[] := fun _ => rfl
            clear hy_ hg_
            generalize a_.eval = ρ_ at *
            go_simp
            exact (HSZ.out w_ (bx_trans hb913 hx_)).mono fun e w' hh => ⟨_, hh.1, by rw [hh.2]; exact Below.refl _ _, rfl⟩
          refine allFrom_cons ?_ ?_
          · intro a_ w_ hk_
            have h64 : a_.eval (.tmp 64) = (.int .u64 18446744073709551615) := hk_.got 14 64 _ (by kernel_rfl) rfl rfl
            have hg_ : a_.eval (.tmp 62) = .bool true := hk_.got 12 62 _ (by kernel_rfl) rfl rfl
            have hy_ := hk_.want 12 _ 62 true rfl rfl hg_
            have hx_ := hk_.ext
            clear hk_
            refine flow_want rfl hy_ ?_
            unfold gives
            have hc_ : ∀ v, a_.eval (.const v) = v := fun _ => rfl
            have hn_ : ∀ f, a_.eval (.func f) = .func (.func f) #[] #[] := fun _ => rfl
            clear hy_ hg_
            generalize a_.eval = ρ_ at *
            go_simp
            exact ⟨Below.refl _ _, rfl⟩
          refine allFrom_cons ?_ ?_
          · intro a_ w_ hk_
            have h62 : a_.eval (.tmp 62) = (.bool true) := hk_.got 12 62 _ (by kernel_rfl) rfl rfl
            have h65 : a_.eval (.tmp 65) = (.bool true) := hk_.got 15 65 _ (by kernel_rfl) rfl rfl
            have hx_ := hk_.ext
            clear hk_
            refine flow_plain rfl ?_
            exact gives_pick rfl h62 ⟨Below.refl _ _, h65⟩
          refine allFrom_cons ?_ ?_
          · intro a_ w_ hk_
            have h66 : a_.eval (.tmp 66) = (.bool true) := hk_.got 16 66 _ (by kernel_rfl) rfl rfl
            have hx_ := hk_.ext
            clear hk_
            refine flow_plain rfl ?_
            exact gives_move rfl ⟨Below.refl _ _, h66⟩
          refine allFrom_cons ?_ ?_
          · intro a_ w_ hk_
            have h8 : a_.eval (.tmp 8) = .pointer (some ⟨g8, 0, none⟩) := hk_.old 8 (by kernel_rfl)
            have hg_ : a_.eval (.tmp 67) = .bool true := hk_.got 17 67 _ (by kernel_rfl) rfl rfl
            have hy_ := hk_.want 17 _ 67 true rfl rfl hg_
            have hx_ := hk_.ext
            clear hk_
            refine flow_want rfl hy_ ?_
            exact gives_move rfl ⟨Below.refl _ _, h8⟩
          refine allFrom_cons ?_ ?_
          · intro a_ w_ hk_
            have h68 : a_.eval (.tmp 68) = (.pointer (some ⟨g8, 0, none⟩)) := hk_.got 18 68 _ (by kernel_rfl) rfl rfl
            have hg_ : a_.eval (.tmp 67) = .bool true := hk_.got 17 67 _ (by kernel_rfl) rfl rfl
            have hy_ := hk_.want 17 _ 67 true rfl rfl hg_
            have hx_ := hk_.ext
            clear hk_
            refine flow_want rfl hy_ ?_
            unfold gives
            have hc_ : ∀ v, a_.eval (.const v) = v := fun _ => rfl
            have hn_ : ∀ f, a_.eval (.func f) = .func (.func f) #[] #[] := fun _ => rfl
            clear hy_ hg_
            generalize a_.eval = ρ_ at *
            go_simp
            exact (HPK.out w_ (bx_trans hb913 hx_)).mono fun e w' hh => hh.elim fun v hv => ⟨v, hv.1, hv.2.2, (own_form hv.2.1).elim fun A h1 => h1.elim fun c h2 => ⟨A, c, h2.1, h2.2.2.2⟩⟩
          refine allFrom_cons ?_ ?_
          · intro a_ w_ hk_
            have h69 : (FP.sl 64 xs).p (a_.eval (.tmp 69)) w_ := hk_.got 19 69 _ (by kernel_rfl) rfl rfl
            have hg_ : a_.eval (.tmp 67) = .bool true := hk_.got 17 67 _ (by kernel_rfl) rfl rfl
            have hy_ := hk_.want 17 _ 67 true rfl rfl hg_
            have hx_ := hk_.ext
            clear hk_
            refine flow_want rfl hy_ ?_
            unfold gives
            have hc_ : ∀ v, a_.eval (.const v) = v := fun _ => rfl
            have hn_ : ∀ f, a_.eval (.func f) = .func (.func f) #[] #[] := fun _ => rfl
            clear hy_ hg_
            obtain ⟨A69, c69, h69, r69⟩ := h69
            generalize a_.eval = ρ_ at *
            go_simp
            exact ⟨Below.refl _ _, rfl⟩
          refine allFrom_cons ?_ ?_
          · intro a_ w_ hk_
            have h70 : a_.eval (.tmp 70) = (.int .i64 64) := hk_.got 20 70 _ (by kernel_rfl) rfl rfl
            have hg_ : a_.eval (.tmp 67) = .bool true := hk_.got 17 67 _ (by kernel_rfl) rfl rfl
            have hy_ := hk_.want 17 _ 67 true rfl rfl hg_
            have hx_ := hk_.ext
            clear hk_
            refine flow_want rfl hy_ ?_
            unfold gives
            have hc_ : ∀ v, a_.eval (.const v) = v := fun _ => rfl
            have hn_ : ∀ f, a_.eval (.func f) = .func (.func f) #[] #[] := fun _ => rfl
            clear hy_ hg_
            generalize a_.eval = ρ_ at *
            go_simp
            exact ⟨Below.refl _ _, rfl⟩
          refine allFrom_cons ?_ ?_
          · intro a_ w_ hk_
            have h67 : a_.eval (.tmp 67) = (.bool true) := hk_.got 17 67 _ (by kernel_rfl) rfl rfl
            have h71 : a_.eval (.tmp 71) = (.bool true) := hk_.got 21 71 _ (by kernel_rfl) rfl rfl
            have hx_ := hk_.ext
            clear hk_
            refine flow_plain rfl ?_
            exact gives_pick rfl h67 ⟨Below.refl _ _, h71⟩
          exact allFrom_nil
        intro f_ w_ hx_ hf_
        have h50 : f_ 50 = (.int .i64 1) := hf_ 0 50 _ (by decide) rfl rfl
        have h51 : f_ 51 = (.bool true) := hf_ 1 51 _ (by decide) rfl rfl
        have h52 : f_ 52 = (.bool true) := hf_ 2 52 _ (by decide) rfl rfl
        have h53 : f_ 53 = (.int .i64 31) := hf_ 3 53 _ (by decide) rfl rfl
        have h54 : f_ 54 = (.bool true) := hf_ 4 54 _ (by decide) rfl rfl
        have h55 : f_ 55 = (.bool true) := hf_ 5 55 _ (by decide) rfl rfl
        have h56 : f_ 56 = (.bool true) := hf_ 6 56 _ (by decide) rfl rfl
        have h57 : f_ 57 = (.pointer (some ⟨g8, 0, none⟩)) := hf_ 7 57 _ (by decide) rfl rfl
        have h58 : f_ 58 = (.agg (R.map cb).toArray) := hf_ 8 58 _ (by decide) rfl rfl
        have h59 : f_ 59 = (.agg (R.map cb).toArray) := hf_ 9 59 _ (by decide) rfl rfl
        have h60 : f_ 60 = (.bool true) := hf_ 10 60 _ (by decide) rfl rfl
        have h61 : f_ 61 = (.bool true) := hf_ 11 61 _ (by decide) rfl rfl
        have h62 : f_ 62 = (.bool true) := hf_ 12 62 _ (by decide) rfl rfl
        have h63 : f_ 63 = (.pointer (some ⟨g8, 0, none⟩)) := hf_ 13 63 _ (by decide) rfl rfl
        have h64 : f_ 64 = (.int .u64 18446744073709551615) := hf_ 14 64 _ (by decide) rfl rfl
        have h65 : f_ 65 = (.bool true) := hf_ 15 65 _ (by decide) rfl rfl
        have h66 : f_ 66 = (.bool true) := hf_ 16 66 _ (by decide) rfl rfl
        have h67 : f_ 67 = (.bool true) := hf_ 17 67 _ (by decide) rfl rfl
        have h68 : f_ 68 = (.pointer (some ⟨g8, 0, none⟩)) := hf_ 18 68 _ (by decide) rfl rfl
        have h69 : (FP.sl 64 xs).p (f_ 69) w_ := hf_ 19 69 _ (by decide) rfl rfl
        have h70 : f_ 70 = (.int .i64 64) := hf_ 20 70 _ (by decide) rfl rfl
        have h71 : f_ 71 = (.bool true) := hf_ 21 71 _ (by decide) rfl rfl
        have h72 : f_ 72 = (.bool true) := hf_ 22 72 _ (by decide) rfl rfl
        simp only [mix, List.drop_succ_cons, List.drop_zero, h50, h51, h52, h53, h54, h55, h56, h57, h58, h59, h60, h61, h62, h63, h64, h65, h66, h67, h68, h70, h71, h72]
        clear h50 h51 h52 h53 h54 h55 h56 h57 h58 h59 h60 h61 h62 h63 h64 h65 h66 h67 h68 h70 h71 h72
        clear hf_
        have HFIN := hid (bx_trans hb013 hx_)
        clear hx_
        go_wp2
        go_ret
        exact ⟨rfl, HFIN.out⟩
end Go.Proofs.YtohkfnmggmlogaaDoor
