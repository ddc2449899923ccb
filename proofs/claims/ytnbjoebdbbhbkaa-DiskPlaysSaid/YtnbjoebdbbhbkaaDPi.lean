
/- DiskPlays walked. -/
import Derived.Test.YtnbjoebdbbhbkaaDPh
namespace Go.Proofs.Ytnbjoebdbbhbkaa
open Go.RowKit
set_option linter.unusedVariables false
set_option maxRecDepth 100000 in
set_option maxHeartbeats 8000000 in
theorem DiskPlays_walk (w : World) (n : Int) (hn : (Lit.int .i64 n).wf = true) (As : Option Addr) (cs : Nat) (acts : List ActD) (hcs : acts.length ≤ cs) (hms : cs ≤ maxLen) (hok : ∀ a ∈ acts, ActOk w a) (hrs : Rd w w.heap.size As (acts.map ActD.cells).flatten) :
    Calls Try.prog 8 #[.int .i64 n, .slice As acts.length cs] w fun e w' => e = .returned (.bool true) ∧ Below w.heap.size w w' := by
  have hms' : cs ≤ 9223372036854775807 := hms
  have HRS := hid hrs
  have HOK := hid hok
  clear hrs hok hms hn
  go_enter Try.func8, Try.ntmps8
  rw [holdSeq 18, hold 7, hold 8, hold 11, hold 13, hold 28, hold 30, hold 35, hold 39, hold 20, hold 40, hold 46]
  go_wp2_with fail
  refine (awake_any _).mono ?_
  rintro e w0 ⟨rfl, hb0⟩
  by_cases h20 : 20 < n
  · go_wp2_with fail
    exact bodyPost_ret (results_tmp rfl _ _ _) rfl ⟨rfl, hb0⟩
  by_cases h1 : n < 1
  · go_wp2_with fail
    refine (New_no w0 n (.inl h1)).mono ?_
    rintro e w1 ⟨rfl, rfl⟩
    go_wp2_with fail
    refine wp_hold ?_
    go_wp2_with fail
    refine (rNew_no w0 n (.inl h1)).mono ?_
    rintro e w1 ⟨rfl, hb1⟩
    have hb01 := bx_trans hb0 hb1
    clear hb0 hb1
    go_wp2_with (first
      | ((with_reducible refine wpAtC ?_); refine wpList_alloc rfl _ rfl zeroRD ?_; intro g8 w2 hg8 hg8' hblk8 hb2; simp only [Act.put, List.setIfInBounds_toArray, List.set_cons_succ, List.set_cons_zero])
      | ((with_reducible refine wpAtC ?_); refine wpList_store_agg rfl _ _ _ rfl _ _ rfl (rcs none 0 0 none 0 0 0 false).toArray rfl aggRD hblk8 (Nat.le_refl 4) oneRD ?_; intro w3 hp3))
    have HBT := hid (bx_put (bx_trans hb01 hb2) hp3 (Nat.le_trans hb01.size hg8))
    clear hb01 hb2 hblk8 hp3
    refine wp_hold ?_
    go_wp2_with fail
    go_loopw [10] (fun v10 wr => v10 = .int .i64 0 ∧ wr = w3) (fun _ _ => 0)
    case atStart => exact ⟨rfl, rfl⟩
    case round =>
      obtain ⟨rfl, rfl⟩ := hrel
      rename World => w3
      go_wp2_with fail
      refine wp_hold (wp_region_lit ?_)
      by_cases ha0 : 0 < acts.length
      · have ha0i : (0 : Int) < (acts.length : Int) := by omega
        refine wp_flowSE [0, 1, 3, 7, 15, 31, 63, 127, 255, 511, 1023, 2047] 12 [false, false, false, false, false, false, false, false, false, false, false, false, false, false, false, false, false, false, false, false, false, false, false, false, false, false, false, false, false, false, false, false, false, false, false, false, false, false, false, false, false, true, true, true, true, true, true, true, true, true, true, true, true] (by kernel_rfl) (by kernel_rfl) (by kernel_rfl) [FP.eq (.int .i64 0), FP.eq (.slice As acts.length cs), FP.eq (.int .i64 (acts.length : Int)), FP.eq (.bool true), FP.eq (.bool true), FP.eq (.int .i64 0), FP.eq (.bool true), FP.eq (.bool true), FP.eq (.bool true), FP.eq (.pointer none), FP.eq (.bool false), FP.eq (.bool false)] ?_ ?_
        · refine allFrom_cons ?_ ?_
          · intro a_ w_ hk_
            have h10 : a_.eval (.tmp 10) = .int .i64 0 := hk_.old 10 (by kernel_rfl)
            have hx_ := hk_.ext
            clear hk_
            refine flow_plain rfl ?_
            exact gives_move rfl ⟨Below.refl _ _, h10⟩
          refine allFrom_cons ?_ ?_
          · intro a_ w_ hk_
            have h1 : a_.eval (.tmp 1) = .slice As acts.length cs := hk_.old 1 (by kernel_rfl)
            have hx_ := hk_.ext
            clear hk_
            refine flow_plain rfl ?_
            exact gives_move rfl ⟨Below.refl _ _, h1⟩
          refine allFrom_cons ?_ ?_
          · intro a_ w_ hk_
            have h42 : a_.eval (.tmp 42) = (.slice As acts.length cs) := hk_.got 1 42 _ (by kernel_rfl) rfl rfl
            have hx_ := hk_.ext
            clear hk_
            refine flow_plain rfl ?_
            unfold gives
            have hc_ : ∀ v, a_.eval (.const v) = v := fun _ => rfl
            have hn_ : ∀ f, a_.eval (.func f) = .func (.func f) #[] #[] := fun _ => rfl
            generalize a_.eval = ρ_ at *
            go_simp
            exact ⟨Below.refl _ _, rfl⟩
          refine allFrom_cons ?_ ?_
          · intro a_ w_ hk_
            have h41 : a_.eval (.tmp 41) = (.int .i64 0) := hk_.got 0 41 _ (by kernel_rfl) rfl rfl
            have h43 : a_.eval (.tmp 43) = (.int .i64 (acts.length : Int)) := hk_.got 2 43 _ (by kernel_rfl) rfl rfl
            have hx_ := hk_.ext
            clear hk_
            refine flow_plain rfl ?_
            unfold gives
            have hc_ : ∀ v, a_.eval (.const v) = v := fun _ => rfl
            have hn_ : ∀ f, a_.eval (.func f) = .func (.func f) #[] #[] := fun _ => rfl
            generalize a_.eval = ρ_ at *
            go_simp
            exact ⟨Below.refl _ _, rfl⟩
          refine allFrom_cons ?_ ?_
          · intro a_ w_ hk_
            have h44 : a_.eval (.tmp 44) = (.bool true) := hk_.got 3 44 _ (by kernel_rfl) rfl rfl
            have hx_ := hk_.ext
            clear hk_
            refine flow_plain rfl ?_
            exact gives_move rfl ⟨Below.refl _ _, h44⟩
          refine allFrom_cons ?_ ?_
          · intro a_ w_ hk_
            have h10 : a_.eval (.tmp 10) = .int .i64 0 := hk_.old 10 (by kernel_rfl)
            have hg_ : a_.eval (.tmp 45) = .bool true := hk_.got 4 45 _ (by kernel_rfl) rfl rfl
            have hy_ := hk_.want 4 _ 45 true rfl rfl hg_
            have hx_ := hk_.ext
            clear hk_
            refine flow_want rfl hy_ ?_
            exact gives_move rfl ⟨Below.refl _ _, h10⟩
          refine allFrom_cons ?_ ?_
          · intro a_ w_ hk_
            have h46 : a_.eval (.tmp 46) = (.int .i64 0) := hk_.got 5 46 _ (by kernel_rfl) rfl rfl
            have hg_ : a_.eval (.tmp 45) = .bool true := hk_.got 4 45 _ (by kernel_rfl) rfl rfl
            have hy_ := hk_.want 4 _ 45 true rfl rfl hg_
            have hx_ := hk_.ext
            clear hk_
            refine flow_want rfl hy_ ?_
            unfold gives
            have hc_ : ∀ v, a_.eval (.const v) = v := fun _ => rfl
            have hn_ : ∀ f, a_.eval (.func f) = .func (.func f) #[] #[] := fun _ => rfl
            clear hy_ hg_
            generalize a_.eval = ρ_ at *
            go_simp
            exact ⟨Below.refl _ _, rfl⟩
          refine allFrom_cons ?_ ?_
          · intro a_ w_ hk_
            have h45 : a_.eval (.tmp 45) = (.bool true) := hk_.got 4 45 _ (by kernel_rfl) rfl rfl
            have h47 : a_.eval (.tmp 47) = (.bool true) := hk_.got 6 47 _ (by kernel_rfl) rfl rfl
            have hx_ := hk_.ext
            clear hk_
            refine flow_plain rfl ?_
            exact gives_pick rfl h45 ⟨Below.refl _ _, h47⟩
          refine allFrom_cons ?_ ?_
          · intro a_ w_ hk_
            have h48 : a_.eval (.tmp 48) = (.bool true) := hk_.got 7 48 _ (by kernel_rfl) rfl rfl
            have hx_ := hk_.ext
            clear hk_
            refine flow_plain rfl ?_
            exact gives_move rfl ⟨Below.refl _ _, h48⟩
          refine allFrom_cons ?_ ?_
          · intro a_ w_ hk_
            have h6 : a_.eval (.tmp 6) = .pointer none := hk_.old 6 (by kernel_rfl)
            have hg_ : a_.eval (.tmp 49) = .bool true := hk_.got 8 49 _ (by kernel_rfl) rfl rfl
            have hy_ := hk_.want 8 _ 49 true rfl rfl hg_
            have hx_ := hk_.ext
            clear hk_
            refine flow_want rfl hy_ ?_
            exact gives_move rfl ⟨Below.refl _ _, h6⟩
          refine allFrom_cons ?_ ?_
          · intro a_ w_ hk_
            have h50 : a_.eval (.tmp 50) = (.pointer none) := hk_.got 9 50 _ (by kernel_rfl) rfl rfl
            have hg_ : a_.eval (.tmp 49) = .bool true := hk_.got 8 49 _ (by kernel_rfl) rfl rfl
            have hy_ := hk_.want 8 _ 49 true rfl rfl hg_
            have hx_ := hk_.ext
            clear hk_
            refine flow_want rfl hy_ ?_
            unfold gives
            have hc_ : ∀ v, a_.eval (.const v) = v := fun _ => rfl
            have hn_ : ∀ f, a_.eval (.func f) = .func (.func f) #[] #[] := fun _ => rfl
            clear hy_ hg_
            generalize a_.eval = ρ_ at *
            go_simp
            exact ⟨Below.refl _ _, rfl⟩
          refine allFrom_cons ?_ ?_
          · intro a_ w_ hk_
            have h49 : a_.eval (.tmp 49) = (.bool true) := hk_.got 8 49 _ (by kernel_rfl) rfl rfl
            have h51 : a_.eval (.tmp 51) = (.bool false) := hk_.got 10 51 _ (by kernel_rfl) rfl rfl
            have hx_ := hk_.ext
            clear hk_
            refine flow_plain rfl ?_
            exact gives_pick rfl h49 ⟨Below.refl _ _, h51⟩
          exact allFrom_nil
        intro f_ w_ hx_ hf_
        have h41 : f_ 41 = (.int .i64 0) := hf_ 0 41 _ (by decide) rfl rfl
        have h42 : f_ 42 = (.slice As acts.length cs) := hf_ 1 42 _ (by decide) rfl rfl
        have h43 : f_ 43 = (.int .i64 (acts.length : Int)) := hf_ 2 43 _ (by decide) rfl rfl
        have h44 : f_ 44 = (.bool true) := hf_ 3 44 _ (by decide) rfl rfl
        have h45 : f_ 45 = (.bool true) := hf_ 4 45 _ (by decide) rfl rfl
        have h46 : f_ 46 = (.int .i64 0) := hf_ 5 46 _ (by decide) rfl rfl
        have h47 : f_ 47 = (.bool true) := hf_ 6 47 _ (by decide) rfl rfl
        have h48 : f_ 48 = (.bool true) := hf_ 7 48 _ (by decide) rfl rfl
        have h49 : f_ 49 = (.bool true) := hf_ 8 49 _ (by decide) rfl rfl
        have h50 : f_ 50 = (.pointer none) := hf_ 9 50 _ (by decide) rfl rfl
        have h51 : f_ 51 = (.bool false) := hf_ 10 51 _ (by decide) rfl rfl
        have h52 : f_ 52 = (.bool false) := hf_ 11 52 _ (by decide) rfl rfl
        simp only [mix, h41, h42, h43, h44, h45, h46, h47, h48, h49, h50, h51, h52]
        clear h41 h42 h43 h44 h45 h46 h47 h48 h49 h50 h51 h52
        clear hf_
        replace HBT := hid (bx_trans HBT.out hx_)
        clear hx_
        go_wp2_with fail
        refine (Fail_nil _ 1).mono ?_
        rintro e wt1 ⟨rfl, rfl⟩
        go_wp2_with fail
        refine (Crash_nil _ (.slice none 0 0)).mono ?_
        rintro e wt2 ⟨rfl, rfl⟩
        go_wp2_with fail
        refine (Read_nil _ 0).mono ?_
        rintro e wt3 ⟨vt, rfl, hvt, hbt⟩
        go_wp2_with fail
        refine wp_hold (wp_region_lit ?_)
        refine wp_flowSE [0, 1, 3, 7, 15, 31, 63, 127, 255, 511, 1023, 2047, 4095, 8191, 16383, 32767, 65535, 131071, 262143, 524287, 1048575, 2097151, 4194303, 8388607, 16777215, 33554431] 26 [false, false, false, false, true, false, false, false, false, false, false, false, false, false, false, false, false, false, false, false, false, false, false, false, false, false, false, false, false, false, false, false, false, false, false, false, false, false, false, false, false, false, false, false, false, false, false, false, false, false, false, false, false, false, false, false, false, false, false, false, false, false, false, false, false, false, false, false, false, false, false, false, false, false, false, false, false, false, false, false, false, false, false, false, false, false, false, false, false, false, false, false, false, false, false, false, false, false, false, false, false, false, false, false, false, false, false, false, false, false, false, false, false, false, false, false, false, false, false, false, false, false, false, false, false, false, false, false, false, false, false, false, false, false, false, false, false, false, false, false, false, false, false, true, true, true, true, true, true, true, true, true, true, true, true, true, true, true, true, true, true, true, true, true, true, true, true, true] (by kernel_rfl) (by kernel_rfl) (by kernel_rfl) [FP.eq (.int .i64 1), FP.eq (.bool true), FP.eq (.bool true), FP.eq (.pointer none), FP.eq (.int .i64 1), FP.eq (.bool true), FP.eq (.bool true), FP.eq (.bool true), FP.eq (.pointer none), FP.eq (.int .i64 1), FP.eq (.bool true), FP.eq (.bool true), FP.eq (.bool true), FP.eq (.pointer none), FP.eq (.int .i64 0), FP.eq (.pointer none), FP.eq (.int .i64 0), FP.eq (.int .i64 0), FP.eq (.bool true), FP.eq (.bool true), FP.eq (.bool true), FP.eq (.pointer none), FP.eq (.bool false), FP.eq (.bool true), FP.eq (.bool true), FP.eq (.bool true)] ?_ ?_
        · refine allFrom_cons ?_ ?_
          · intro a_ w_ hk_
            have h15 : a_.eval (.tmp 15) = .int .i64 1 := hk_.old 15 (by kernel_rfl)
            have hx_ := hk_.ext
            clear hk_
            refine flow_plain rfl ?_
            exact gives_move rfl ⟨Below.refl _ _, h15⟩
          refine allFrom_cons ?_ ?_
          · intro a_ w_ hk_
            have h143 : a_.eval (.tmp 143) = (.int .i64 1) := hk_.got 0 143 _ (by kernel_rfl) rfl rfl
            have hx_ := hk_.ext
            clear hk_
            refine flow_plain rfl ?_
            unfold gives
            have hc_ : ∀ v, a_.eval (.const v) = v := fun _ => rfl
            have hn_ : ∀ f, a_.eval (.func f) = .func (.func f) #[] #[] := fun _ => rfl
            generalize a_.eval = ρ_ at *
            go_simp
            exact ⟨Below.refl _ _, rfl⟩
          refine allFrom_cons ?_ ?_
          · intro a_ w_ hk_
            have h144 : a_.eval (.tmp 144) = (.bool true) := hk_.got 1 144 _ (by kernel_rfl) rfl rfl
            have hx_ := hk_.ext
            clear hk_
            refine flow_plain rfl ?_
            exact gives_move rfl ⟨Below.refl _ _, h144⟩
          refine allFrom_cons ?_ ?_
          · intro a_ w_ hk_
            have h13 : a_.eval (.tmp 13) = .pointer none := hk_.old 13 (by kernel_rfl)
            have hg_ : a_.eval (.tmp 145) = .bool true := hk_.got 2 145 _ (by kernel_rfl) rfl rfl
            have hy_ := hk_.want 2 _ 145 true rfl rfl hg_
            have hx_ := hk_.ext
            clear hk_
            refine flow_want rfl hy_ ?_
            exact gives_move rfl ⟨Below.refl _ _, h13⟩
          refine allFrom_cons ?_ ?_
          · intro a_ w_ hk_
            have h146 : a_.eval (.tmp 146) = (.pointer none) := hk_.got 3 146 _ (by kernel_rfl) rfl rfl
            have hg_ : a_.eval (.tmp 145) = .bool true := hk_.got 2 145 _ (by kernel_rfl) rfl rfl
            have hy_ := hk_.want 2 _ 145 true rfl rfl hg_
            have hx_ := hk_.ext
            clear hk_
            refine flow_want rfl hy_ ?_
            unfold gives
            have hc_ : ∀ v, a_.eval (.const v) = v := fun _ => rfl
            have hn_ : ∀ f, a_.eval (.func f) = .func (.func f) #[] #[] := fun _ => rfl
            clear hy_ hg_
            generalize a_.eval = ρ_ at *
            go_simp
            exact (Write_nil w_ 0 (.slice none 0 0)).mono fun e w' ⟨h1, h2⟩ => ⟨_, h1, h2 ▸ Below.refl _ _, rfl⟩
          refine allFrom_cons ?_ ?_
          · intro a_ w_ hk_
            have h147 : a_.eval (.tmp 147) = (.int .i64 1) := hk_.got 4 147 _ (by kernel_rfl) rfl rfl
            have hg_ : a_.eval (.tmp 145) = .bool true := hk_.got 2 145 _ (by kernel_rfl) rfl rfl
            have hy_ := hk_.want 2 _ 145 true rfl rfl hg_
            have hx_ := hk_.ext
            clear hk_
            refine flow_want rfl hy_ ?_
            unfold gives
            have hc_ : ∀ v, a_.eval (.const v) = v := fun _ => rfl
            have hn_ : ∀ f, a_.eval (.func f) = .func (.func f) #[] #[] := fun _ => rfl
            clear hy_ hg_
            generalize a_.eval = ρ_ at *
            go_simp
            exact ⟨Below.refl _ _, rfl⟩
          refine allFrom_cons ?_ ?_
          · intro a_ w_ hk_
            have h145 : a_.eval (.tmp 145) = (.bool true) := hk_.got 2 145 _ (by kernel_rfl) rfl rfl
            have h148 : a_.eval (.tmp 148) = (.bool true) := hk_.got 5 148 _ (by kernel_rfl) rfl rfl
            have hx_ := hk_.ext
            clear hk_
            refine flow_plain rfl ?_
            exact gives_pick rfl h145 ⟨Below.refl _ _, h148⟩
          refine allFrom_cons ?_ ?_
          · intro a_ w_ hk_
            have h149 : a_.eval (.tmp 149) = (.bool true) := hk_.got 6 149 _ (by kernel_rfl) rfl rfl
            have hx_ := hk_.ext
            clear hk_
            refine flow_plain rfl ?_
            exact gives_move rfl ⟨Below.refl _ _, h149⟩
          refine allFrom_cons ?_ ?_
          · intro a_ w_ hk_
            have h13 : a_.eval (.tmp 13) = .pointer none := hk_.old 13 (by kernel_rfl)
            have hg_ : a_.eval (.tmp 150) = .bool true := hk_.got 7 150 _ (by kernel_rfl) rfl rfl
            have hy_ := hk_.want 7 _ 150 true rfl rfl hg_
            have hx_ := hk_.ext
            clear hk_
            refine flow_want rfl hy_ ?_
            exact gives_move rfl ⟨Below.refl _ _, h13⟩
          refine allFrom_cons ?_ ?_
          · intro a_ w_ hk_
            have h151 : a_.eval (.tmp 151) = (.pointer none) := hk_.got 8 151 _ (by kernel_rfl) rfl rfl
            have hg_ : a_.eval (.tmp 150) = .bool true := hk_.got 7 150 _ (by kernel_rfl) rfl rfl
            have hy_ := hk_.want 7 _ 150 true rfl rfl hg_
            have hx_ := hk_.ext
            clear hk_
            refine flow_want rfl hy_ ?_
            unfold gives
            have hc_ : ∀ v, a_.eval (.const v) = v := fun _ => rfl
            have hn_ : ∀ f, a_.eval (.func f) = .func (.func f) #[] #[] := fun _ => rfl
            clear hy_ hg_
            generalize a_.eval = ρ_ at *
            go_simp
            exact (Sync_nil w_).mono fun e w' ⟨h1, h2⟩ => ⟨_, h1, h2 ▸ Below.refl _ _, rfl⟩
          refine allFrom_cons ?_ ?_
          · intro a_ w_ hk_
            have h152 : a_.eval (.tmp 152) = (.int .i64 1) := hk_.got 9 152 _ (by kernel_rfl) rfl rfl
            have hg_ : a_.eval (.tmp 150) = .bool true := hk_.got 7 150 _ (by kernel_rfl) rfl rfl
            have hy_ := hk_.want 7 _ 150 true rfl rfl hg_
            have hx_ := hk_.ext
            clear hk_
            refine flow_want rfl hy_ ?_
            unfold gives
            have hc_ : ∀ v, a_.eval (.const v) = v := fun _ => rfl
            have hn_ : ∀ f, a_.eval (.func f) = .func (.func f) #[] #[] := fun _ => rfl
            clear hy_ hg_
            generalize a_.eval = ρ_ at *
            go_simp
            exact ⟨Below.refl _ _, rfl⟩
          refine allFrom_cons ?_ ?_
          · intro a_ w_ hk_
            have h150 : a_.eval (.tmp 150) = (.bool true) := hk_.got 7 150 _ (by kernel_rfl) rfl rfl
            have h153 : a_.eval (.tmp 153) = (.bool true) := hk_.got 10 153 _ (by kernel_rfl) rfl rfl
            have hx_ := hk_.ext
            clear hk_
            refine flow_plain rfl ?_
            exact gives_pick rfl h150 ⟨Below.refl _ _, h153⟩
          refine allFrom_cons ?_ ?_
          · intro a_ w_ hk_
            have h154 : a_.eval (.tmp 154) = (.bool true) := hk_.got 11 154 _ (by kernel_rfl) rfl rfl
            have hx_ := hk_.ext
            clear hk_
            refine flow_plain rfl ?_
            exact gives_move rfl ⟨Below.refl _ _, h154⟩
          refine allFrom_cons ?_ ?_
          · intro a_ w_ hk_
            have h13 : a_.eval (.tmp 13) = .pointer none := hk_.old 13 (by kernel_rfl)
            have hg_ : a_.eval (.tmp 155) = .bool true := hk_.got 12 155 _ (by kernel_rfl) rfl rfl
            have hy_ := hk_.want 12 _ 155 true rfl rfl hg_
            have hx_ := hk_.ext
            clear hk_
            refine flow_want rfl hy_ ?_
            exact gives_move rfl ⟨Below.refl _ _, h13⟩
          refine allFrom_cons ?_ ?_
          · intro a_ w_ hk_
            have h156 : a_.eval (.tmp 156) = (.pointer none) := hk_.got 13 156 _ (by kernel_rfl) rfl rfl
            have hg_ : a_.eval (.tmp 155) = .bool true := hk_.got 12 155 _ (by kernel_rfl) rfl rfl
            have hy_ := hk_.want 12 _ 155 true rfl rfl hg_
            have hx_ := hk_.ext
            clear hk_
            refine flow_want rfl hy_ ?_
            unfold gives
            have hc_ : ∀ v, a_.eval (.const v) = v := fun _ => rfl
            have hn_ : ∀ f, a_.eval (.func f) = .func (.func f) #[] #[] := fun _ => rfl
            clear hy_ hg_
            generalize a_.eval = ρ_ at *
            go_simp
            exact (Len_nil w_).mono fun e w' ⟨h1, h2⟩ => ⟨_, h1, h2 ▸ Below.refl _ _, rfl⟩
          refine allFrom_cons ?_ ?_
          · intro a_ w_ hk_
            have h13 : a_.eval (.tmp 13) = .pointer none := hk_.old 13 (by kernel_rfl)
            have hg_ : a_.eval (.tmp 155) = .bool true := hk_.got 12 155 _ (by kernel_rfl) rfl rfl
            have hy_ := hk_.want 12 _ 155 true rfl rfl hg_
            have hx_ := hk_.ext
            clear hk_
            refine flow_want rfl hy_ ?_
            exact gives_move rfl ⟨Below.refl _ _, h13⟩
          refine allFrom_cons ?_ ?_
          · intro a_ w_ hk_
            have h158 : a_.eval (.tmp 158) = (.pointer none) := hk_.got 15 158 _ (by kernel_rfl) rfl rfl
            have hg_ : a_.eval (.tmp 155) = .bool true := hk_.got 12 155 _ (by kernel_rfl) rfl rfl
            have hy_ := hk_.want 12 _ 155 true rfl rfl hg_
            have hx_ := hk_.ext
            clear hk_
            refine flow_want rfl hy_ ?_
            unfold gives
            have hc_ : ∀ v, a_.eval (.const v) = v := fun _ => rfl
            have hn_ : ∀ f, a_.eval (.func f) = .func (.func f) #[] #[] := fun _ => rfl
            clear hy_ hg_
            generalize a_.eval = ρ_ at *
            go_simp
            exact (Loose_nil w_).mono fun e w' ⟨h1, h2⟩ => ⟨_, h1, h2 ▸ Below.refl _ _, rfl⟩
          refine allFrom_cons ?_ ?_
          · intro a_ w_ hk_
            have h157 : a_.eval (.tmp 157) = (.int .i64 0) := hk_.got 14 157 _ (by kernel_rfl) rfl rfl
            have h159 : a_.eval (.tmp 159) = (.int .i64 0) := hk_.got 16 159 _ (by kernel_rfl) rfl rfl
            have hg_ : a_.eval (.tmp 155) = .bool true := hk_.got 12 155 _ (by kernel_rfl) rfl rfl
            have hy_ := hk_.want 12 _ 155 true rfl rfl hg_
            have hx_ := hk_.ext
            clear hk_
            refine flow_want rfl hy_ ?_
            unfold gives
            have hc_ : ∀ v, a_.eval (.const v) = v := fun _ => rfl
            have hn_ : ∀ f, a_.eval (.func f) = .func (.func f) #[] #[] := fun _ => rfl
            clear hy_ hg_
            generalize a_.eval = ρ_ at *
            go_simp
            exact ⟨Below.refl _ _, rfl⟩
          refine allFrom_cons ?_ ?_
          · intro a_ w_ hk_
            have h160 : a_.eval (.tmp 160) = (.int .i64 0) := hk_.got 17 160 _ (by kernel_rfl) rfl rfl
            have hg_ : a_.eval (.tmp 155) = .bool true := hk_.got 12 155 _ (by kernel_rfl) rfl rfl
            have hy_ := hk_.want 12 _ 155 true rfl rfl hg_
            have hx_ := hk_.ext
            clear hk_
            refine flow_want rfl hy_ ?_
            unfold gives
            have hc_ : ∀ v, a_.eval (.const v) = v := fun _ => rfl
            have hn_ : ∀ f, a_.eval (.func f) = .func (.func f) #[] #[] := fun _ => rfl
            clear hy_ hg_
            generalize a_.eval = ρ_ at *
            go_simp
            exact ⟨Below.refl _ _, rfl⟩
          refine allFrom_cons ?_ ?_
          · intro a_ w_ hk_
            have h155 : a_.eval (.tmp 155) = (.bool true) := hk_.got 12 155 _ (by kernel_rfl) rfl rfl
            have h161 : a_.eval (.tmp 161) = (.bool true) := hk_.got 18 161 _ (by kernel_rfl) rfl rfl
            have hx_ := hk_.ext
            clear hk_
            refine flow_plain rfl ?_
            exact gives_pick rfl h155 ⟨Below.refl _ _, h161⟩
          refine allFrom_cons ?_ ?_
          · intro a_ w_ hk_
            have h162 : a_.eval (.tmp 162) = (.bool true) := hk_.got 19 162 _ (by kernel_rfl) rfl rfl
            have hx_ := hk_.ext
            clear hk_
            refine flow_plain rfl ?_
            exact gives_move rfl ⟨Below.refl _ _, h162⟩
          refine allFrom_cons ?_ ?_
          · intro a_ w_ hk_
            have h13 : a_.eval (.tmp 13) = .pointer none := hk_.old 13 (by kernel_rfl)
            have hg_ : a_.eval (.tmp 163) = .bool true := hk_.got 20 163 _ (by kernel_rfl) rfl rfl
            have hy_ := hk_.want 20 _ 163 true rfl rfl hg_
            have hx_ := hk_.ext
            clear hk_
            refine flow_want rfl hy_ ?_
            exact gives_move rfl ⟨Below.refl _ _, h13⟩
          refine allFrom_cons ?_ ?_
          · intro a_ w_ hk_
            have h164 : a_.eval (.tmp 164) = (.pointer none) := hk_.got 21 164 _ (by kernel_rfl) rfl rfl
            have hg_ : a_.eval (.tmp 163) = .bool true := hk_.got 20 163 _ (by kernel_rfl) rfl rfl
            have hy_ := hk_.want 20 _ 163 true rfl rfl hg_
            have hx_ := hk_.ext
            clear hk_
            refine flow_want rfl hy_ ?_
            unfold gives
            have hc_ : ∀ v, a_.eval (.const v) = v := fun _ => rfl
            have hn_ : ∀ f, a_.eval (.func f) = .func (.func f) #[] #[] := fun _ => rfl
            clear hy_ hg_
            generalize a_.eval = ρ_ at *
            go_simp
            exact (Dead_nil w_).mono fun e w' ⟨h1, h2⟩ => ⟨_, h1, h2 ▸ Below.refl _ _, rfl⟩
          refine allFrom_cons ?_ ?_
          · intro a_ w_ hk_
            have h165 : a_.eval (.tmp 165) = (.bool false) := hk_.got 22 165 _ (by kernel_rfl) rfl rfl
            have hg_ : a_.eval (.tmp 163) = .bool true := hk_.got 20 163 _ (by kernel_rfl) rfl rfl
            have hy_ := hk_.want 20 _ 163 true rfl rfl hg_
            have hx_ := hk_.ext
            clear hk_
            refine flow_want rfl hy_ ?_
            unfold gives
            have hc_ : ∀ v, a_.eval (.const v) = v := fun _ => rfl
            have hn_ : ∀ f, a_.eval (.func f) = .func (.func f) #[] #[] := fun _ => rfl
            clear hy_ hg_
            generalize a_.eval = ρ_ at *
            go_simp
            exact ⟨Below.refl _ _, rfl⟩
          refine allFrom_cons ?_ ?_
          · intro a_ w_ hk_
            have h163 : a_.eval (.tmp 163) = (.bool true) := hk_.got 20 163 _ (by kernel_rfl) rfl rfl
            have h166 : a_.eval (.tmp 166) = (.bool true) := hk_.got 23 166 _ (by kernel_rfl) rfl rfl
            have hx_ := hk_.ext
            clear hk_
            refine flow_plain rfl ?_
            exact gives_pick rfl h163 ⟨Below.refl _ _, h166⟩
          refine allFrom_cons ?_ ?_
          · intro a_ w_ hk_
            have h167 : a_.eval (.tmp 167) = (.bool true) := hk_.got 24 167 _ (by kernel_rfl) rfl rfl
            have hx_ := hk_.ext
            clear hk_
            refine flow_plain rfl ?_
            exact gives_assign rfl ⟨Below.refl _ _, h167⟩
          exact allFrom_nil
        intro f_ w_ hx_ hf_
        have h143 : f_ 143 = (.int .i64 1) := hf_ 0 143 _ (by decide) rfl rfl
        have h144 : f_ 144 = (.bool true) := hf_ 1 144 _ (by decide) rfl rfl
        have h145 : f_ 145 = (.bool true) := hf_ 2 145 _ (by decide) rfl rfl
        have h146 : f_ 146 = (.pointer none) := hf_ 3 146 _ (by decide) rfl rfl
        have h147 : f_ 147 = (.int .i64 1) := hf_ 4 147 _ (by decide) rfl rfl
        have h148 : f_ 148 = (.bool true) := hf_ 5 148 _ (by decide) rfl rfl
        have h149 : f_ 149 = (.bool true) := hf_ 6 149 _ (by decide) rfl rfl
        have h150 : f_ 150 = (.bool true) := hf_ 7 150 _ (by decide) rfl rfl
        have h151 : f_ 151 = (.pointer none) := hf_ 8 151 _ (by decide) rfl rfl
        have h152 : f_ 152 = (.int .i64 1) := hf_ 9 152 _ (by decide) rfl rfl
        have h153 : f_ 153 = (.bool true) := hf_ 10 153 _ (by decide) rfl rfl
        have h154 : f_ 154 = (.bool true) := hf_ 11 154 _ (by decide) rfl rfl
        have h155 : f_ 155 = (.bool true) := hf_ 12 155 _ (by decide) rfl rfl
        have h156 : f_ 156 = (.pointer none) := hf_ 13 156 _ (by decide) rfl rfl
        have h157 : f_ 157 = (.int .i64 0) := hf_ 14 157 _ (by decide) rfl rfl
        have h158 : f_ 158 = (.pointer none) := hf_ 15 158 _ (by decide) rfl rfl
        have h159 : f_ 159 = (.int .i64 0) := hf_ 16 159 _ (by decide) rfl rfl
        have h160 : f_ 160 = (.int .i64 0) := hf_ 17 160 _ (by decide) rfl rfl
        have h161 : f_ 161 = (.bool true) := hf_ 18 161 _ (by decide) rfl rfl
        have h162 : f_ 162 = (.bool true) := hf_ 19 162 _ (by decide) rfl rfl
        have h163 : f_ 163 = (.bool true) := hf_ 20 163 _ (by decide) rfl rfl
        have h164 : f_ 164 = (.pointer none) := hf_ 21 164 _ (by decide) rfl rfl
        have h165 : f_ 165 = (.bool false) := hf_ 22 165 _ (by decide) rfl rfl
        have h166 : f_ 166 = (.bool true) := hf_ 23 166 _ (by decide) rfl rfl
        have h167 : f_ 167 = (.bool true) := hf_ 24 167 _ (by decide) rfl rfl
        have h4 : f_ 4 = (.bool true) := hf_ 25 4 _ (by decide) rfl rfl
        simp only [mix, h143, h144, h145, h146, h147, h148, h149, h150, h151, h152, h153, h154, h155, h156, h157, h158, h159, h160, h161, h162, h163, h164, h165, h166, h167, h4]
        clear h143 h144 h145 h146 h147 h148 h149 h150 h151 h152 h153 h154 h155 h156 h157 h158 h159 h160 h161 h162 h163 h164 h165 h166 h167 h4
        clear hf_
        go_wp2_with fail
        exact bodyPost_ret (results_tmp rfl _ _ _) rfl ⟨rfl, bx_trans (bx_trans HBT.out hbt) hx_⟩
      · have ha0i : ¬ (0 : Int) < (acts.length : Int) := by omega
        refine wp_flowSE [0, 1, 3, 7, 15, 31, 63, 127, 255, 511, 1023, 2047] 12 [false, false, false, false, false, false, false, false, false, false, false, false, false, false, false, false, false, false, false, false, false, false, false, false, false, false, false, false, false, false, false, false, false, false, false, false, false, false, false, false, false, true, true, true, true, true, true, true, true, true, true, true, true] (by kernel_rfl) (by kernel_rfl) (by kernel_rfl) [FP.eq (.int .i64 0), FP.eq (.slice As acts.length cs), FP.eq (.int .i64 (acts.length : Int)), FP.eq (.bool false), FP.eq (.bool false), FP.any, FP.any, FP.eq (.bool false), FP.eq (.bool false), FP.any, FP.any, FP.eq (.bool false)] ?_ ?_
        · refine allFrom_cons ?_ ?_
          · intro a_ w_ hk_
            have h10 : a_.eval (.tmp 10) = .int .i64 0 := hk_.old 10 (by kernel_rfl)
            have hx_ := hk_.ext
            clear hk_
            refine flow_plain rfl ?_
            exact gives_move rfl ⟨Below.refl _ _, h10⟩
          refine allFrom_cons ?_ ?_
          · intro a_ w_ hk_
            have h1 : a_.eval (.tmp 1) = .slice As acts.length cs := hk_.old 1 (by kernel_rfl)
            have hx_ := hk_.ext
            clear hk_
            refine flow_plain rfl ?_
            exact gives_move rfl ⟨Below.refl _ _, h1⟩
          refine allFrom_cons ?_ ?_
          · intro a_ w_ hk_
            have h42 : a_.eval (.tmp 42) = (.slice As acts.length cs) := hk_.got 1 42 _ (by kernel_rfl) rfl rfl
            have hx_ := hk_.ext
            clear hk_
            refine flow_plain rfl ?_
            unfold gives
            have hc_ : ∀ v, a_.eval (.const v) = v := fun _ => rfl
            have hn_ : ∀ f, a_.eval (.func f) = .func (.func f) #[] #[] := fun _ => rfl
            generalize a_.eval = ρ_ at *
            go_simp
            exact ⟨Below.refl _ _, rfl⟩
          refine allFrom_cons ?_ ?_
          · intro a_ w_ hk_
            have h41 : a_.eval (.tmp 41) = (.int .i64 0) := hk_.got 0 41 _ (by kernel_rfl) rfl rfl
            have h43 : a_.eval (.tmp 43) = (.int .i64 (acts.length : Int)) := hk_.got 2 43 _ (by kernel_rfl) rfl rfl
            have hx_ := hk_.ext
            clear hk_
            refine flow_plain rfl ?_
            unfold gives
            have hc_ : ∀ v, a_.eval (.const v) = v := fun _ => rfl
            have hn_ : ∀ f, a_.eval (.func f) = .func (.func f) #[] #[] := fun _ => rfl
            generalize a_.eval = ρ_ at *
            go_simp
            exact ⟨Below.refl _ _, rfl⟩
          refine allFrom_cons ?_ ?_
          · intro a_ w_ hk_
            have h44 : a_.eval (.tmp 44) = (.bool false) := hk_.got 3 44 _ (by kernel_rfl) rfl rfl
            have hx_ := hk_.ext
            clear hk_
            refine flow_plain rfl ?_
            exact gives_move rfl ⟨Below.refl _ _, h44⟩
          refine allFrom_cons ?_ ?_
          · intro a_ w_ hk_
            have h10 : a_.eval (.tmp 10) = .int .i64 0 := hk_.old 10 (by kernel_rfl)
            have hg_ : a_.eval (.tmp 45) = .bool false := hk_.got 4 45 _ (by kernel_rfl) rfl rfl
            have hy_ := hk_.want 4 _ 45 false rfl rfl hg_
            have hx_ := hk_.ext
            clear hk_
            exact flow_skip rfl hy_ (by decide) trivial
          refine allFrom_cons ?_ ?_
          · intro a_ w_ hk_
            have hg_ : a_.eval (.tmp 45) = .bool false := hk_.got 4 45 _ (by kernel_rfl) rfl rfl
            have hy_ := hk_.want 4 _ 45 false rfl rfl hg_
            have hx_ := hk_.ext
            clear hk_
            exact flow_skip rfl hy_ (by decide) trivial
          refine allFrom_cons ?_ ?_
          · intro a_ w_ hk_
            have h45 : a_.eval (.tmp 45) = (.bool false) := hk_.got 4 45 _ (by kernel_rfl) rfl rfl
            have hx_ := hk_.ext
            clear hk_
            refine flow_plain rfl ?_
            exact gives_pick rfl h45 ⟨Below.refl _ _, rfl⟩
          refine allFrom_cons ?_ ?_
          · intro a_ w_ hk_
            have h48 : a_.eval (.tmp 48) = (.bool false) := hk_.got 7 48 _ (by kernel_rfl) rfl rfl
            have hx_ := hk_.ext
            clear hk_
            refine flow_plain rfl ?_
            exact gives_move rfl ⟨Below.refl _ _, h48⟩
          refine allFrom_cons ?_ ?_
          · intro a_ w_ hk_
            have h6 : a_.eval (.tmp 6) = .pointer none := hk_.old 6 (by kernel_rfl)
            have hg_ : a_.eval (.tmp 49) = .bool false := hk_.got 8 49 _ (by kernel_rfl) rfl rfl
            have hy_ := hk_.want 8 _ 49 false rfl rfl hg_
            have hx_ := hk_.ext
            clear hk_
            exact flow_skip rfl hy_ (by decide) trivial
          refine allFrom_cons ?_ ?_
          · intro a_ w_ hk_
            have hg_ : a_.eval (.tmp 49) = .bool false := hk_.got 8 49 _ (by kernel_rfl) rfl rfl
            have hy_ := hk_.want 8 _ 49 false rfl rfl hg_
            have hx_ := hk_.ext
            clear hk_
            exact flow_skip rfl hy_ (by decide) trivial
          refine allFrom_cons ?_ ?_
          · intro a_ w_ hk_
            have h49 : a_.eval (.tmp 49) = (.bool false) := hk_.got 8 49 _ (by kernel_rfl) rfl rfl
            have hx_ := hk_.ext
            clear hk_
            refine flow_plain rfl ?_
            exact gives_pick rfl h49 ⟨Below.refl _ _, rfl⟩
          exact allFrom_nil
        intro f_ w_ hx_ hf_
        have h41 : f_ 41 = (.int .i64 0) := hf_ 0 41 _ (by decide) rfl rfl
        have h42 : f_ 42 = (.slice As acts.length cs) := hf_ 1 42 _ (by decide) rfl rfl
        have h43 : f_ 43 = (.int .i64 (acts.length : Int)) := hf_ 2 43 _ (by decide) rfl rfl
        have h44 : f_ 44 = (.bool false) := hf_ 3 44 _ (by decide) rfl rfl
        have h45 : f_ 45 = (.bool false) := hf_ 4 45 _ (by decide) rfl rfl
        have h48 : f_ 48 = (.bool false) := hf_ 7 48 _ (by decide) rfl rfl
        have h49 : f_ 49 = (.bool false) := hf_ 8 49 _ (by decide) rfl rfl
        have h52 : f_ 52 = (.bool false) := hf_ 11 52 _ (by decide) rfl rfl
        simp only [mix, h41, h42, h43, h44, h45, h48, h49, h52]
        clear h41 h42 h43 h44 h45 h48 h49 h52
        clear hf_
        replace HBT := hid (bx_trans HBT.out hx_)
        clear hx_
        go_wp2_with fail
        refine (Fail_nil _ 1).mono ?_
        rintro e wt1 ⟨rfl, rfl⟩
        go_wp2_with fail
        refine (Crash_nil _ (.slice none 0 0)).mono ?_
        rintro e wt2 ⟨rfl, rfl⟩
        go_wp2_with fail
        refine (Read_nil _ 0).mono ?_
        rintro e wt3 ⟨vt, rfl, hvt, hbt⟩
        go_wp2_with fail
        refine wp_hold (wp_region_lit ?_)
        refine wp_flowSE [0, 1, 3, 7, 15, 31, 63, 127, 255, 511, 1023, 2047, 4095, 8191, 16383, 32767, 65535, 131071, 262143, 524287, 1048575, 2097151, 4194303, 8388607, 16777215, 33554431] 26 [false, false, false, false, true, false, false, false, false, false, false, false, false, false, false, false, false, false, false, false, false, false, false, false, false, false, false, false, false, false, false, false, false, false, false, false, false, false, false, false, false, false, false, false, false, false, false, false, false, false, false, false, false, false, false, false, false, false, false, false, false, false, false, false, false, false, false, false, false, false, false, false, false, false, false, false, false, false, false, false, false, false, false, false, false, false, false, false, false, false, false, false, false, false, false, false, false, false, false, false, false, false, false, false, false, false, false, false, false, false, false, false, false, false, false, false, false, false, false, false, false, false, false, false, false, false, false, false, false, false, false, false, false, false, false, false, false, false, false, false, false, false, false, true, true, true, true, true, true, true, true, true, true, true, true, true, true, true, true, true, true, true, true, true, true, true, true, true] (by kernel_rfl) (by kernel_rfl) (by kernel_rfl) [FP.eq (.int .i64 1), FP.eq (.bool true), FP.eq (.bool true), FP.eq (.pointer none), FP.eq (.int .i64 1), FP.eq (.bool true), FP.eq (.bool true), FP.eq (.bool true), FP.eq (.pointer none), FP.eq (.int .i64 1), FP.eq (.bool true), FP.eq (.bool true), FP.eq (.bool true), FP.eq (.pointer none), FP.eq (.int .i64 0), FP.eq (.pointer none), FP.eq (.int .i64 0), FP.eq (.int .i64 0), FP.eq (.bool true), FP.eq (.bool true), FP.eq (.bool true), FP.eq (.pointer none), FP.eq (.bool false), FP.eq (.bool true), FP.eq (.bool true), FP.eq (.bool true)] ?_ ?_
        · refine allFrom_cons ?_ ?_
          · intro a_ w_ hk_
            have h15 : a_.eval (.tmp 15) = .int .i64 1 := hk_.old 15 (by kernel_rfl)
            have hx_ := hk_.ext
            clear hk_
            refine flow_plain rfl ?_
            exact gives_move rfl ⟨Below.refl _ _, h15⟩
          refine allFrom_cons ?_ ?_
          · intro a_ w_ hk_
            have h143 : a_.eval (.tmp 143) = (.int .i64 1) := hk_.got 0 143 _ (by kernel_rfl) rfl rfl
            have hx_ := hk_.ext
            clear hk_
            refine flow_plain rfl ?_
            unfold gives
            have hc_ : ∀ v, a_.eval (.const v) = v := fun _ => rfl
            have hn_ : ∀ f, a_.eval (.func f) = .func (.func f) #[] #[] := fun _ => rfl
            generalize a_.eval = ρ_ at *
            go_simp
            exact ⟨Below.refl _ _, rfl⟩
          refine allFrom_cons ?_ ?_
          · intro a_ w_ hk_
            have h144 : a_.eval (.tmp 144) = (.bool true) := hk_.got 1 144 _ (by kernel_rfl) rfl rfl
            have hx_ := hk_.ext
            clear hk_
            refine flow_plain rfl ?_
            exact gives_move rfl ⟨Below.refl _ _, h144⟩
          refine allFrom_cons ?_ ?_
          · intro a_ w_ hk_
            have h13 : a_.eval (.tmp 13) = .pointer none := hk_.old 13 (by kernel_rfl)
            have hg_ : a_.eval (.tmp 145) = .bool true := hk_.got 2 145 _ (by kernel_rfl) rfl rfl
            have hy_ := hk_.want 2 _ 145 true rfl rfl hg_
            have hx_ := hk_.ext
            clear hk_
            refine flow_want rfl hy_ ?_
            exact gives_move rfl ⟨Below.refl _ _, h13⟩
          refine allFrom_cons ?_ ?_
          · intro a_ w_ hk_
            have h146 : a_.eval (.tmp 146) = (.pointer none) := hk_.got 3 146 _ (by kernel_rfl) rfl rfl
            have hg_ : a_.eval (.tmp 145) = .bool true := hk_.got 2 145 _ (by kernel_rfl) rfl rfl
            have hy_ := hk_.want 2 _ 145 true rfl rfl hg_
            have hx_ := hk_.ext
            clear hk_
            refine flow_want rfl hy_ ?_
            unfold gives
            have hc_ : ∀ v, a_.eval (.const v) = v := fun _ => rfl
            have hn_ : ∀ f, a_.eval (.func f) = .func (.func f) #[] #[] := fun _ => rfl
            clear hy_ hg_
            generalize a_.eval = ρ_ at *
            go_simp
            exact (Write_nil w_ 0 (.slice none 0 0)).mono fun e w' ⟨h1, h2⟩ => ⟨_, h1, h2 ▸ Below.refl _ _, rfl⟩
          refine allFrom_cons ?_ ?_
          · intro a_ w_ hk_
            have h147 : a_.eval (.tmp 147) = (.int .i64 1) := hk_.got 4 147 _ (by kernel_rfl) rfl rfl
            have hg_ : a_.eval (.tmp 145) = .bool true := hk_.got 2 145 _ (by kernel_rfl) rfl rfl
            have hy_ := hk_.want 2 _ 145 true rfl rfl hg_
            have hx_ := hk_.ext
            clear hk_
            refine flow_want rfl hy_ ?_
            unfold gives
            have hc_ : ∀ v, a_.eval (.const v) = v := fun _ => rfl
            have hn_ : ∀ f, a_.eval (.func f) = .func (.func f) #[] #[] := fun _ => rfl
            clear hy_ hg_
            generalize a_.eval = ρ_ at *
            go_simp
            exact ⟨Below.refl _ _, rfl⟩
          refine allFrom_cons ?_ ?_
          · intro a_ w_ hk_
            have h145 : a_.eval (.tmp 145) = (.bool true) := hk_.got 2 145 _ (by kernel_rfl) rfl rfl
            have h148 : a_.eval (.tmp 148) = (.bool true) := hk_.got 5 148 _ (by kernel_rfl) rfl rfl
            have hx_ := hk_.ext
            clear hk_
            refine flow_plain rfl ?_
            exact gives_pick rfl h145 ⟨Below.refl _ _, h148⟩
          refine allFrom_cons ?_ ?_
          · intro a_ w_ hk_
            have h149 : a_.eval (.tmp 149) = (.bool true) := hk_.got 6 149 _ (by kernel_rfl) rfl rfl
            have hx_ := hk_.ext
            clear hk_
            refine flow_plain rfl ?_
            exact gives_move rfl ⟨Below.refl _ _, h149⟩
          refine allFrom_cons ?_ ?_
          · intro a_ w_ hk_
            have h13 : a_.eval (.tmp 13) = .pointer none := hk_.old 13 (by kernel_rfl)
            have hg_ : a_.eval (.tmp 150) = .bool true := hk_.got 7 150 _ (by kernel_rfl) rfl rfl
            have hy_ := hk_.want 7 _ 150 true rfl rfl hg_
            have hx_ := hk_.ext
            clear hk_
            refine flow_want rfl hy_ ?_
            exact gives_move rfl ⟨Below.refl _ _, h13⟩
          refine allFrom_cons ?_ ?_
          · intro a_ w_ hk_
            have h151 : a_.eval (.tmp 151) = (.pointer none) := hk_.got 8 151 _ (by kernel_rfl) rfl rfl
            have hg_ : a_.eval (.tmp 150) = .bool true := hk_.got 7 150 _ (by kernel_rfl) rfl rfl
            have hy_ := hk_.want 7 _ 150 true rfl rfl hg_
            have hx_ := hk_.ext
            clear hk_
            refine flow_want rfl hy_ ?_
            unfold gives
            have hc_ : ∀ v, a_.eval (.const v) = v := fun _ => rfl
            have hn_ : ∀ f, a_.eval (.func f) = .func (.func f) #[] #[] := fun _ => rfl
            clear hy_ hg_
            generalize a_.eval = ρ_ at *
            go_simp
            exact (Sync_nil w_).mono fun e w' ⟨h1, h2⟩ => ⟨_, h1, h2 ▸ Below.refl _ _, rfl⟩
          refine allFrom_cons ?_ ?_
          · intro a_ w_ hk_
            have h152 : a_.eval (.tmp 152) = (.int .i64 1) := hk_.got 9 152 _ (by kernel_rfl) rfl rfl
            have hg_ : a_.eval (.tmp 150) = .bool true := hk_.got 7 150 _ (by kernel_rfl) rfl rfl
            have hy_ := hk_.want 7 _ 150 true rfl rfl hg_
            have hx_ := hk_.ext
            clear hk_
            refine flow_want rfl hy_ ?_
            unfold gives
            have hc_ : ∀ v, a_.eval (.const v) = v := fun _ => rfl
            have hn_ : ∀ f, a_.eval (.func f) = .func (.func f) #[] #[] := fun _ => rfl
            clear hy_ hg_
            generalize a_.eval = ρ_ at *
            go_simp
            exact ⟨Below.refl _ _, rfl⟩
          refine allFrom_cons ?_ ?_
          · intro a_ w_ hk_
            have h150 : a_.eval (.tmp 150) = (.bool true) := hk_.got 7 150 _ (by kernel_rfl) rfl rfl
            have h153 : a_.eval (.tmp 153) = (.bool true) := hk_.got 10 153 _ (by kernel_rfl) rfl rfl
            have hx_ := hk_.ext
            clear hk_
            refine flow_plain rfl ?_
            exact gives_pick rfl h150 ⟨Below.refl _ _, h153⟩
          refine allFrom_cons ?_ ?_
          · intro a_ w_ hk_
            have h154 : a_.eval (.tmp 154) = (.bool true) := hk_.got 11 154 _ (by kernel_rfl) rfl rfl
            have hx_ := hk_.ext
            clear hk_
            refine flow_plain rfl ?_
            exact gives_move rfl ⟨Below.refl _ _, h154⟩
          refine allFrom_cons ?_ ?_
          · intro a_ w_ hk_
            have h13 : a_.eval (.tmp 13) = .pointer none := hk_.old 13 (by kernel_rfl)
            have hg_ : a_.eval (.tmp 155) = .bool true := hk_.got 12 155 _ (by kernel_rfl) rfl rfl
            have hy_ := hk_.want 12 _ 155 true rfl rfl hg_
            have hx_ := hk_.ext
            clear hk_
            refine flow_want rfl hy_ ?_
            exact gives_move rfl ⟨Below.refl _ _, h13⟩
          refine allFrom_cons ?_ ?_
          · intro a_ w_ hk_
            have h156 : a_.eval (.tmp 156) = (.pointer none) := hk_.got 13 156 _ (by kernel_rfl) rfl rfl
            have hg_ : a_.eval (.tmp 155) = .bool true := hk_.got 12 155 _ (by kernel_rfl) rfl rfl
            have hy_ := hk_.want 12 _ 155 true rfl rfl hg_
            have hx_ := hk_.ext
            clear hk_
            refine flow_want rfl hy_ ?_
            unfold gives
            have hc_ : ∀ v, a_.eval (.const v) = v := fun _ => rfl
            have hn_ : ∀ f, a_.eval (.func f) = .func (.func f) #[] #[] := fun _ => rfl
            clear hy_ hg_
            generalize a_.eval = ρ_ at *
            go_simp
            exact (Len_nil w_).mono fun e w' ⟨h1, h2⟩ => ⟨_, h1, h2 ▸ Below.refl _ _, rfl⟩
          refine allFrom_cons ?_ ?_
          · intro a_ w_ hk_
            have h13 : a_.eval (.tmp 13) = .pointer none := hk_.old 13 (by kernel_rfl)
            have hg_ : a_.eval (.tmp 155) = .bool true := hk_.got 12 155 _ (by kernel_rfl) rfl rfl
            have hy_ := hk_.want 12 _ 155 true rfl rfl hg_
            have hx_ := hk_.ext
            clear hk_
            refine flow_want rfl hy_ ?_
            exact gives_move rfl ⟨Below.refl _ _, h13⟩
          refine allFrom_cons ?_ ?_
          · intro a_ w_ hk_
            have h158 : a_.eval (.tmp 158) = (.pointer none) := hk_.got 15 158 _ (by kernel_rfl) rfl rfl
            have hg_ : a_.eval (.tmp 155) = .bool true := hk_.got 12 155 _ (by kernel_rfl) rfl rfl
            have hy_ := hk_.want 12 _ 155 true rfl rfl hg_
            have hx_ := hk_.ext
            clear hk_
            refine flow_want rfl hy_ ?_
            unfold gives
            have hc_ : ∀ v, a_.eval (.const v) = v := fun _ => rfl
            have hn_ : ∀ f, a_.eval (.func f) = .func (.func f) #[] #[] := fun _ => rfl
            clear hy_ hg_
            generalize a_.eval = ρ_ at *
            go_simp
            exact (Loose_nil w_).mono fun e w' ⟨h1, h2⟩ => ⟨_, h1, h2 ▸ Below.refl _ _, rfl⟩
          refine allFrom_cons ?_ ?_
          · intro a_ w_ hk_
            have h157 : a_.eval (.tmp 157) = (.int .i64 0) := hk_.got 14 157 _ (by kernel_rfl) rfl rfl
            have h159 : a_.eval (.tmp 159) = (.int .i64 0) := hk_.got 16 159 _ (by kernel_rfl) rfl rfl
            have hg_ : a_.eval (.tmp 155) = .bool true := hk_.got 12 155 _ (by kernel_rfl) rfl rfl
            have hy_ := hk_.want 12 _ 155 true rfl rfl hg_
            have hx_ := hk_.ext
            clear hk_
            refine flow_want rfl hy_ ?_
            unfold gives
            have hc_ : ∀ v, a_.eval (.const v) = v := fun _ => rfl
            have hn_ : ∀ f, a_.eval (.func f) = .func (.func f) #[] #[] := fun _ => rfl
            clear hy_ hg_
            generalize a_.eval = ρ_ at *
            go_simp
            exact ⟨Below.refl _ _, rfl⟩
          refine allFrom_cons ?_ ?_
          · intro a_ w_ hk_
            have h160 : a_.eval (.tmp 160) = (.int .i64 0) := hk_.got 17 160 _ (by kernel_rfl) rfl rfl
            have hg_ : a_.eval (.tmp 155) = .bool true := hk_.got 12 155 _ (by kernel_rfl) rfl rfl
            have hy_ := hk_.want 12 _ 155 true rfl rfl hg_
            have hx_ := hk_.ext
            clear hk_
            refine flow_want rfl hy_ ?_
            unfold gives
            have hc_ : ∀ v, a_.eval (.const v) = v := fun _ => rfl
            have hn_ : ∀ f, a_.eval (.func f) = .func (.func f) #[] #[] := fun _ => rfl
            clear hy_ hg_
            generalize a_.eval = ρ_ at *
            go_simp
            exact ⟨Below.refl _ _, rfl⟩
          refine allFrom_cons ?_ ?_
          · intro a_ w_ hk_
            have h155 : a_.eval (.tmp 155) = (.bool true) := hk_.got 12 155 _ (by kernel_rfl) rfl rfl
            have h161 : a_.eval (.tmp 161) = (.bool true) := hk_.got 18 161 _ (by kernel_rfl) rfl rfl
            have hx_ := hk_.ext
            clear hk_
            refine flow_plain rfl ?_
            exact gives_pick rfl h155 ⟨Below.refl _ _, h161⟩
          refine allFrom_cons ?_ ?_
          · intro a_ w_ hk_
            have h162 : a_.eval (.tmp 162) = (.bool true) := hk_.got 19 162 _ (by kernel_rfl) rfl rfl
            have hx_ := hk_.ext
            clear hk_
            refine flow_plain rfl ?_
            exact gives_move rfl ⟨Below.refl _ _, h162⟩
          refine allFrom_cons ?_ ?_
          · intro a_ w_ hk_
            have h13 : a_.eval (.tmp 13) = .pointer none := hk_.old 13 (by kernel_rfl)
            have hg_ : a_.eval (.tmp 163) = .bool true := hk_.got 20 163 _ (by kernel_rfl) rfl rfl
            have hy_ := hk_.want 20 _ 163 true rfl rfl hg_
            have hx_ := hk_.ext
            clear hk_
            refine flow_want rfl hy_ ?_
            exact gives_move rfl ⟨Below.refl _ _, h13⟩
          refine allFrom_cons ?_ ?_
          · intro a_ w_ hk_
            have h164 : a_.eval (.tmp 164) = (.pointer none) := hk_.got 21 164 _ (by kernel_rfl) rfl rfl
            have hg_ : a_.eval (.tmp 163) = .bool true := hk_.got 20 163 _ (by kernel_rfl) rfl rfl
            have hy_ := hk_.want 20 _ 163 true rfl rfl hg_
            have hx_ := hk_.ext
            clear hk_
            refine flow_want rfl hy_ ?_
            unfold gives
            have hc_ : ∀ v, a_.eval (.const v) = v := fun _ => rfl
            have hn_ : ∀ f, a_.eval (.func f) = .func (.func f) #[] #[] := fun _ => rfl
            clear hy_ hg_
            generalize a_.eval = ρ_ at *
            go_simp
            exact (Dead_nil w_).mono fun e w' ⟨h1, h2⟩ => ⟨_, h1, h2 ▸ Below.refl _ _, rfl⟩
          refine allFrom_cons ?_ ?_
          · intro a_ w_ hk_
            have h165 : a_.eval (.tmp 165) = (.bool false) := hk_.got 22 165 _ (by kernel_rfl) rfl rfl
            have hg_ : a_.eval (.tmp 163) = .bool true := hk_.got 20 163 _ (by kernel_rfl) rfl rfl
            have hy_ := hk_.want 20 _ 163 true rfl rfl hg_
            have hx_ := hk_.ext
            clear hk_
            refine flow_want rfl hy_ ?_
            unfold gives
            have hc_ : ∀ v, a_.eval (.const v) = v := fun _ => rfl
            have hn_ : ∀ f, a_.eval (.func f) = .func (.func f) #[] #[] := fun _ => rfl
            clear hy_ hg_
            generalize a_.eval = ρ_ at *
            go_simp
            exact ⟨Below.refl _ _, rfl⟩
          refine allFrom_cons ?_ ?_
          · intro a_ w_ hk_
            have h163 : a_.eval (.tmp 163) = (.bool true) := hk_.got 20 163 _ (by kernel_rfl) rfl rfl
            have h166 : a_.eval (.tmp 166) = (.bool true) := hk_.got 23 166 _ (by kernel_rfl) rfl rfl
            have hx_ := hk_.ext
            clear hk_
            refine flow_plain rfl ?_
            exact gives_pick rfl h163 ⟨Below.refl _ _, h166⟩
          refine allFrom_cons ?_ ?_
          · intro a_ w_ hk_
            have h167 : a_.eval (.tmp 167) = (.bool true) := hk_.got 24 167 _ (by kernel_rfl) rfl rfl
            have hx_ := hk_.ext
            clear hk_
            refine flow_plain rfl ?_
            exact gives_assign rfl ⟨Below.refl _ _, h167⟩
          exact allFrom_nil
        intro f_ w_ hx_ hf_
        have h143 : f_ 143 = (.int .i64 1) := hf_ 0 143 _ (by decide) rfl rfl
        have h144 : f_ 144 = (.bool true) := hf_ 1 144 _ (by decide) rfl rfl
        have h145 : f_ 145 = (.bool true) := hf_ 2 145 _ (by decide) rfl rfl
        have h146 : f_ 146 = (.pointer none) := hf_ 3 146 _ (by decide) rfl rfl
        have h147 : f_ 147 = (.int .i64 1) := hf_ 4 147 _ (by decide) rfl rfl
        have h148 : f_ 148 = (.bool true) := hf_ 5 148 _ (by decide) rfl rfl
        have h149 : f_ 149 = (.bool true) := hf_ 6 149 _ (by decide) rfl rfl
        have h150 : f_ 150 = (.bool true) := hf_ 7 150 _ (by decide) rfl rfl
        have h151 : f_ 151 = (.pointer none) := hf_ 8 151 _ (by decide) rfl rfl
        have h152 : f_ 152 = (.int .i64 1) := hf_ 9 152 _ (by decide) rfl rfl
        have h153 : f_ 153 = (.bool true) := hf_ 10 153 _ (by decide) rfl rfl
        have h154 : f_ 154 = (.bool true) := hf_ 11 154 _ (by decide) rfl rfl
        have h155 : f_ 155 = (.bool true) := hf_ 12 155 _ (by decide) rfl rfl
        have h156 : f_ 156 = (.pointer none) := hf_ 13 156 _ (by decide) rfl rfl
        have h157 : f_ 157 = (.int .i64 0) := hf_ 14 157 _ (by decide) rfl rfl
        have h158 : f_ 158 = (.pointer none) := hf_ 15 158 _ (by decide) rfl rfl
        have h159 : f_ 159 = (.int .i64 0) := hf_ 16 159 _ (by decide) rfl rfl
        have h160 : f_ 160 = (.int .i64 0) := hf_ 17 160 _ (by decide) rfl rfl
        have h161 : f_ 161 = (.bool true) := hf_ 18 161 _ (by decide) rfl rfl
        have h162 : f_ 162 = (.bool true) := hf_ 19 162 _ (by decide) rfl rfl
        have h163 : f_ 163 = (.bool true) := hf_ 20 163 _ (by decide) rfl rfl
        have h164 : f_ 164 = (.pointer none) := hf_ 21 164 _ (by decide) rfl rfl
        have h165 : f_ 165 = (.bool false) := hf_ 22 165 _ (by decide) rfl rfl
        have h166 : f_ 166 = (.bool true) := hf_ 23 166 _ (by decide) rfl rfl
        have h167 : f_ 167 = (.bool true) := hf_ 24 167 _ (by decide) rfl rfl
        have h4 : f_ 4 = (.bool true) := hf_ 25 4 _ (by decide) rfl rfl
        simp only [mix, h143, h144, h145, h146, h147, h148, h149, h150, h151, h152, h153, h154, h155, h156, h157, h158, h159, h160, h161, h162, h163, h164, h165, h166, h167, h4]
        clear h143 h144 h145 h146 h147 h148 h149 h150 h151 h152 h153 h154 h155 h156 h157 h158 h159 h160 h161 h162 h163 h164 h165 h166 h167 h4
        clear hf_
        go_wp2_with fail
        exact bodyPost_ret (results_tmp rfl _ _ _) rfl ⟨rfl, bx_trans (bx_trans HBT.out hbt) hx_⟩
  obtain ⟨N, rfl⟩ := Int.eq_ofNat_of_zero_le (show 0 ≤ n by omega)
  have hN1 : 1 ≤ N := by omega
  have hN20 : N ≤ 20 := by omega
  go_wp2_with fail
  refine (New_yes w0 N hN1 (by omega)).mono ?_
  rintro e w1 ⟨g, rfl, hd1, hb1⟩
  go_wp2_with fail
  refine wp_hold ?_
  go_wp2_with fail
  refine (rNew_yes w1 N hN1 (by omega)).mono ?_
  rintro e w2 ⟨A, c, rfl, hr2, hb2⟩
  go_wp2_with (first
    | ((with_reducible refine wpAtC ?_); refine wpList_alloc rfl _ rfl zeroRD ?_; intro g8 w3 hg8 hg8' hblk8 hb3; simp only [Act.put, List.setIfInBounds_toArray, List.set_cons_succ, List.set_cons_zero])
    | ((with_reducible refine wpAtC ?_); refine wpList_store_agg rfl _ _ _ rfl _ _ rfl (rcs A N c none 0 0 (-1) false).toArray rfl aggRD hblk8 (Nat.le_refl 4) oneRD ?_; intro w4 hp4))
  have hb34 := bx_put hb3 hp4 hg8
  have hI0 : PlayI w w0.heap.size g g8 0 (newD N) A c none 0 w4 := ⟨(hd1.below hb2).below hb34, hr2.below hb34, hp4.blk, bx_trans hb0 (bx_trans hb1 (bx_trans hb2 hb34)), (bx_trans hb1 (bx_trans hb2 hb34)).size, hN20, Nat.le_refl _, fun x hx => absurd (show x ∈ ([] : List (Int × List UInt8)) from hx) (by simp)⟩
  have HI0 := hid hI0
  have hwB := hb0.size
  have hg8w : w.heap.size ≤ g8 := Nat.le_trans (Nat.le_trans hwB hb1.size) (Nat.le_trans hb2.size hg8)
  clear hI0 hd1 hr2 hb1 hb2 hb3 hp4 hblk8 hb34 hb0 hg8 hg8' hN1 hN20 h1 h20
  refine wp_hold (wp_region_lit ?_)
  refine wp_flowSE [0, 1, 3, 7, 15, 31, 63, 127, 255, 511] 10 [false, false, false, false, false, false, false, false, false, false, false, false, false, false, false, false, false, false, false, false, false, false, false, false, false, false, false, false, false, false, false, true, true, true, true, true, true, true, true, true, true] (by kernel_rfl) (by kernel_rfl) (by kernel_rfl) [FP.eq (.int .i64 0), FP.eq (.int .i64 0), FP.eq (.bool false), FP.eq (.bool false), FP.eq (.pointer (some ⟨g, 0, none⟩)), FP.eq (.bool false), FP.eq (.int .i64 0), FP.eq (.bool false), FP.eq (.bool false), FP.eq (.bool false)] ?_ ?_
  · refine allFrom_cons ?_ ?_
    · intro a_ w_ hk_
      have h7 : a_.eval (.tmp 7) = .int .i64 0 := hk_.old 7 (by kernel_rfl)
      have hx_ := hk_.ext
      clear hk_
      refine flow_plain rfl ?_
      exact gives_move rfl ⟨Below.refl _ _, h7⟩
    refine allFrom_cons ?_ ?_
    · intro a_ w_ hk_
      have h9 : a_.eval (.tmp 9) = .int .i64 0 := hk_.old 9 (by kernel_rfl)
      have hx_ := hk_.ext
      clear hk_
      refine flow_plain rfl ?_
      exact gives_move rfl ⟨Below.refl _ _, h9⟩
    refine allFrom_cons ?_ ?_
    · intro a_ w_ hk_
      have h31 : a_.eval (.tmp 31) = (.int .i64 0) := hk_.got 0 31 _ (by kernel_rfl) rfl rfl
      have h32 : a_.eval (.tmp 32) = (.int .i64 0) := hk_.got 1 32 _ (by kernel_rfl) rfl rfl
      have hx_ := hk_.ext
      clear hk_
      refine flow_plain rfl ?_
      unfold gives
      have hc_ : ∀ v, a_.eval (.const v) = v := fun _ => rfl
      have hn_ : ∀ f, a_.eval (.func f) = .func (.func f) #[] #[] := fun _ => rfl
      generalize a_.eval = ρ_ at *
      go_simp
      exact ⟨Below.refl _ _, rfl⟩
    refine allFrom_cons ?_ ?_
    · intro a_ w_ hk_
      have h33 : a_.eval (.tmp 33) = (.bool false) := hk_.got 2 33 _ (by kernel_rfl) rfl rfl
      have hx_ := hk_.ext
      clear hk_
      refine flow_plain rfl ?_
      exact gives_move rfl ⟨Below.refl _ _, h33⟩
    refine allFrom_cons ?_ ?_
    · intro a_ w_ hk_
      have h6 : a_.eval (.tmp 6) = .pointer (some ⟨g, 0, none⟩) := hk_.old 6 (by kernel_rfl)
      have hg_ : a_.eval (.tmp 34) = .bool false := hk_.got 3 34 _ (by kernel_rfl) rfl rfl
      have hy_ := hk_.want 3 _ 34 false rfl rfl hg_
      have hx_ := hk_.ext
      clear hk_
      refine flow_want rfl hy_ ?_
      exact gives_move rfl ⟨Below.refl _ _, h6⟩
    refine allFrom_cons ?_ ?_
    · intro a_ w_ hk_
      have h35 : a_.eval (.tmp 35) = (.pointer (some ⟨g, 0, none⟩)) := hk_.got 4 35 _ (by kernel_rfl) rfl rfl
      have hg_ : a_.eval (.tmp 34) = .bool false := hk_.got 3 34 _ (by kernel_rfl) rfl rfl
      have hy_ := hk_.want 3 _ 34 false rfl rfl hg_
      have hx_ := hk_.ext
      clear hk_
      refine flow_want rfl hy_ ?_
      unfold gives
      have hc_ : ∀ v, a_.eval (.const v) = v := fun _ => rfl
      have hn_ : ∀ f, a_.eval (.func f) = .func (.func f) #[] #[] := fun _ => rfl
      clear hy_ hg_
      generalize a_.eval = ρ_ at *
      go_simp
      exact ⟨Below.refl _ _, rfl⟩
    refine allFrom_cons ?_ ?_
    · intro a_ w_ hk_
      have h7 : a_.eval (.tmp 7) = .int .i64 0 := hk_.old 7 (by kernel_rfl)
      have hg_ : a_.eval (.tmp 34) = .bool false := hk_.got 3 34 _ (by kernel_rfl) rfl rfl
      have hy_ := hk_.want 3 _ 34 false rfl rfl hg_
      have hx_ := hk_.ext
      clear hk_
      refine flow_want rfl hy_ ?_
      exact gives_move rfl ⟨Below.refl _ _, h7⟩
    refine allFrom_cons ?_ ?_
    · intro a_ w_ hk_
      have h37 : a_.eval (.tmp 37) = (.int .i64 0) := hk_.got 6 37 _ (by kernel_rfl) rfl rfl
      have hg_ : a_.eval (.tmp 34) = .bool false := hk_.got 3 34 _ (by kernel_rfl) rfl rfl
      have hy_ := hk_.want 3 _ 34 false rfl rfl hg_
      have hx_ := hk_.ext
      clear hk_
      refine flow_want rfl hy_ ?_
      unfold gives
      have hc_ : ∀ v, a_.eval (.const v) = v := fun _ => rfl
      have hn_ : ∀ f, a_.eval (.func f) = .func (.func f) #[] #[] := fun _ => rfl
      clear hy_ hg_
      generalize a_.eval = ρ_ at *
      go_simp
      exact ⟨Below.refl _ _, rfl⟩
    refine allFrom_cons ?_ ?_
    · intro a_ w_ hk_
      have h36 : a_.eval (.tmp 36) = (.bool false) := hk_.got 5 36 _ (by kernel_rfl) rfl rfl
      have h38 : a_.eval (.tmp 38) = (.bool false) := hk_.got 7 38 _ (by kernel_rfl) rfl rfl
      have hg_ : a_.eval (.tmp 34) = .bool false := hk_.got 3 34 _ (by kernel_rfl) rfl rfl
      have hy_ := hk_.want 3 _ 34 false rfl rfl hg_
      have hx_ := hk_.ext
      clear hk_
      refine flow_want rfl hy_ ?_
      unfold gives
      have hc_ : ∀ v, a_.eval (.const v) = v := fun _ => rfl
      have hn_ : ∀ f, a_.eval (.func f) = .func (.func f) #[] #[] := fun _ => rfl
      clear hy_ hg_
      generalize a_.eval = ρ_ at *
      go_simp
      exact ⟨Below.refl _ _, rfl⟩
    refine allFrom_cons ?_ ?_
    · intro a_ w_ hk_
      have h34 : a_.eval (.tmp 34) = (.bool false) := hk_.got 3 34 _ (by kernel_rfl) rfl rfl
      have h39 : a_.eval (.tmp 39) = (.bool false) := hk_.got 8 39 _ (by kernel_rfl) rfl rfl
      have hx_ := hk_.ext
      clear hk_
      refine flow_plain rfl ?_
      exact gives_pick rfl h34 ⟨Below.refl _ _, h39⟩
    exact allFrom_nil
  intro f_ w_ hx_ hf_
  have h31 : f_ 31 = (.int .i64 0) := hf_ 0 31 _ (by decide) rfl rfl
  have h32 : f_ 32 = (.int .i64 0) := hf_ 1 32 _ (by decide) rfl rfl
  have h33 : f_ 33 = (.bool false) := hf_ 2 33 _ (by decide) rfl rfl
  have h34 : f_ 34 = (.bool false) := hf_ 3 34 _ (by decide) rfl rfl
  have h35 : f_ 35 = (.pointer (some ⟨g, 0, none⟩)) := hf_ 4 35 _ (by decide) rfl rfl
  have h36 : f_ 36 = (.bool false) := hf_ 5 36 _ (by decide) rfl rfl
  have h37 : f_ 37 = (.int .i64 0) := hf_ 6 37 _ (by decide) rfl rfl
  have h38 : f_ 38 = (.bool false) := hf_ 7 38 _ (by decide) rfl rfl
  have h39 : f_ 39 = (.bool false) := hf_ 8 39 _ (by decide) rfl rfl
  have h40 : f_ 40 = (.bool false) := hf_ 9 40 _ (by decide) rfl rfl
  simp only [mix, h31, h32, h33, h34, h35, h36, h37, h38, h39, h40]
  clear h31 h32 h33 h34 h35 h36 h37 h38 h39 h40
  clear hf_
  obtain ⟨w5, hw5⟩ : ∃ w5, w5 = w_ := ⟨_, rfl⟩
  rw [← hw5] at hx_ ⊢
  clear hw5
  have HI5 := hid (HI0.out.below' hx_)
  clear HI0 hx_
  go_wp2_with fail
  go_loopw [10] (fun v10 wr => ∃ (k : Nat) (D : DS) (A : Option Addr) (c : Nat) (A2 : Option Addr) (c2 : Nat), k ≤ 30 ∧ k ≤ acts.length ∧ v10 = .int .i64 (k : Int) ∧ PlayI w w0.heap.size g g8 k D A c A2 c2 wr) (fun v10 _ => acts.length - (intOf v10).toNat)
  case atStart => exact ⟨0, _, _, _, _, _, Nat.zero_le _, Nat.zero_le _, rfl, HI5.out⟩
  case round =>
    clear HI5
    obtain ⟨k, D, A1, c1, A2, c2, hk30, hka, rfl, hI⟩ := hrel
    rename World => wr
    have HI := hid hI
    clear hI
    by_cases hlt : k < acts.length
    · have hlti : (k : Int) < (acts.length : Int) := by omega
      by_cases hl30 : k < 30
      · have hl30i : (k : Int) < 30 := by omega
        go_wp2_with fail
        refine wp_hold (wp_region_lit ?_)
        refine wp_flowSE [0, 1, 3, 7, 15, 31, 63, 127, 255, 511, 1023, 2047] 12 [false, false, false, false, false, false, false, false, false, false, false, false, false, false, false, false, false, false, false, false, false, false, false, false, false, false, false, false, false, false, false, false, false, false, false, false, false, false, false, false, false, true, true, true, true, true, true, true, true, true, true, true, true] (by kernel_rfl) (by kernel_rfl) (by kernel_rfl) [FP.eq (.int .i64 (k : Int)), FP.eq (.slice As acts.length cs), FP.eq (.int .i64 (acts.length : Int)), FP.eq (.bool true), FP.eq (.bool true), FP.eq (.int .i64 (k : Int)), FP.eq (.bool true), FP.eq (.bool true), FP.eq (.bool true), FP.eq (.pointer (some ⟨g, 0, none⟩)), FP.eq (.bool true), FP.eq (.bool true)] ?_ ?_
        · refine allFrom_cons ?_ ?_
          · intro a_ w_ hk_
            have h10 : a_.eval (.tmp 10) = .int .i64 (k : Int) := hk_.old 10 (by kernel_rfl)
            have hx_ := hk_.ext
            clear hk_
            refine flow_plain rfl ?_
            exact gives_move rfl ⟨Below.refl _ _, h10⟩
          refine allFrom_cons ?_ ?_
          · intro a_ w_ hk_
            have h1 : a_.eval (.tmp 1) = .slice As acts.length cs := hk_.old 1 (by kernel_rfl)
            have hx_ := hk_.ext
            clear hk_
            refine flow_plain rfl ?_
            exact gives_move rfl ⟨Below.refl _ _, h1⟩
          refine allFrom_cons ?_ ?_
          · intro a_ w_ hk_
            have h42 : a_.eval (.tmp 42) = (.slice As acts.length cs) := hk_.got 1 42 _ (by kernel_rfl) rfl rfl
            have hx_ := hk_.ext
            clear hk_
            refine flow_plain rfl ?_
            unfold gives
            have hc_ : ∀ v, a_.eval (.const v) = v := fun _ => rfl
            have hn_ : ∀ f, a_.eval (.func f) = .func (.func f) #[] #[] := fun _ => rfl
            generalize a_.eval = ρ_ at *
            go_simp
            exact ⟨Below.refl _ _, rfl⟩
          refine allFrom_cons ?_ ?_
          · intro a_ w_ hk_
            have h41 : a_.eval (.tmp 41) = (.int .i64 (k : Int)) := hk_.got 0 41 _ (by kernel_rfl) rfl rfl
            have h43 : a_.eval (.tmp 43) = (.int .i64 (acts.length : Int)) := hk_.got 2 43 _ (by kernel_rfl) rfl rfl
            have hx_ := hk_.ext
            clear hk_
            refine flow_plain rfl ?_
            unfold gives
            have hc_ : ∀ v, a_.eval (.const v) = v := fun _ => rfl
            have hn_ : ∀ f, a_.eval (.func f) = .func (.func f) #[] #[] := fun _ => rfl
            generalize a_.eval = ρ_ at *
            go_simp
            exact ⟨Below.refl _ _, rfl⟩
          refine allFrom_cons ?_ ?_
          · intro a_ w_ hk_
            have h44 : a_.eval (.tmp 44) = (.bool true) := hk_.got 3 44 _ (by kernel_rfl) rfl rfl
            have hx_ := hk_.ext
            clear hk_
            refine flow_plain rfl ?_
            exact gives_move rfl ⟨Below.refl _ _, h44⟩
          refine allFrom_cons ?_ ?_
          · intro a_ w_ hk_
            have h10 : a_.eval (.tmp 10) = .int .i64 (k : Int) := hk_.old 10 (by kernel_rfl)
            have hg_ : a_.eval (.tmp 45) = .bool true := hk_.got 4 45 _ (by kernel_rfl) rfl rfl
            have hy_ := hk_.want 4 _ 45 true rfl rfl hg_
            have hx_ := hk_.ext
            clear hk_
            refine flow_want rfl hy_ ?_
            exact gives_move rfl ⟨Below.refl _ _, h10⟩
          refine allFrom_cons ?_ ?_
          · intro a_ w_ hk_
            have h46 : a_.eval (.tmp 46) = (.int .i64 (k : Int)) := hk_.got 5 46 _ (by kernel_rfl) rfl rfl
            have hg_ : a_.eval (.tmp 45) = .bool true := hk_.got 4 45 _ (by kernel_rfl) rfl rfl
            have hy_ := hk_.want 4 _ 45 true rfl rfl hg_
            have hx_ := hk_.ext
            clear hk_
            refine flow_want rfl hy_ ?_
            unfold gives
            have hc_ : ∀ v, a_.eval (.const v) = v := fun _ => rfl
            have hn_ : ∀ f, a_.eval (.func f) = .func (.func f) #[] #[] := fun _ => rfl
            clear hy_ hg_
            generalize a_.eval = ρ_ at *
            go_simp
            exact ⟨Below.refl _ _, rfl⟩
          refine allFrom_cons ?_ ?_
          · intro a_ w_ hk_
            have h45 : a_.eval (.tmp 45) = (.bool true) := hk_.got 4 45 _ (by kernel_rfl) rfl rfl
            have h47 : a_.eval (.tmp 47) = (.bool true) := hk_.got 6 47 _ (by kernel_rfl) rfl rfl
            have hx_ := hk_.ext
            clear hk_
            refine flow_plain rfl ?_
            exact gives_pick rfl h45 ⟨Below.refl _ _, h47⟩
          refine allFrom_cons ?_ ?_
          · intro a_ w_ hk_
            have h48 : a_.eval (.tmp 48) = (.bool true) := hk_.got 7 48 _ (by kernel_rfl) rfl rfl
            have hx_ := hk_.ext
            clear hk_
            refine flow_plain rfl ?_
            exact gives_move rfl ⟨Below.refl _ _, h48⟩
          refine allFrom_cons ?_ ?_
          · intro a_ w_ hk_
            have h6 : a_.eval (.tmp 6) = .pointer (some ⟨g, 0, none⟩) := hk_.old 6 (by kernel_rfl)
            have hg_ : a_.eval (.tmp 49) = .bool true := hk_.got 8 49 _ (by kernel_rfl) rfl rfl
            have hy_ := hk_.want 8 _ 49 true rfl rfl hg_
            have hx_ := hk_.ext
            clear hk_
            refine flow_want rfl hy_ ?_
            exact gives_move rfl ⟨Below.refl _ _, h6⟩
          refine allFrom_cons ?_ ?_
          · intro a_ w_ hk_
            have h50 : a_.eval (.tmp 50) = (.pointer (some ⟨g, 0, none⟩)) := hk_.got 9 50 _ (by kernel_rfl) rfl rfl
            have hg_ : a_.eval (.tmp 49) = .bool true := hk_.got 8 49 _ (by kernel_rfl) rfl rfl
            have hy_ := hk_.want 8 _ 49 true rfl rfl hg_
            have hx_ := hk_.ext
            clear hk_
            refine flow_want rfl hy_ ?_
            unfold gives
            have hc_ : ∀ v, a_.eval (.const v) = v := fun _ => rfl
            have hn_ : ∀ f, a_.eval (.func f) = .func (.func f) #[] #[] := fun _ => rfl
            clear hy_ hg_
            generalize a_.eval = ρ_ at *
            go_simp
            exact ⟨Below.refl _ _, rfl⟩
          refine allFrom_cons ?_ ?_
          · intro a_ w_ hk_
            have h49 : a_.eval (.tmp 49) = (.bool true) := hk_.got 8 49 _ (by kernel_rfl) rfl rfl
            have h51 : a_.eval (.tmp 51) = (.bool true) := hk_.got 10 51 _ (by kernel_rfl) rfl rfl
            have hx_ := hk_.ext
            clear hk_
            refine flow_plain rfl ?_
            exact gives_pick rfl h49 ⟨Below.refl _ _, h51⟩
          exact allFrom_nil
        intro f_ w_ hx_ hf_
        have h41 : f_ 41 = (.int .i64 (k : Int)) := hf_ 0 41 _ (by decide) rfl rfl
        have h42 : f_ 42 = (.slice As acts.length cs) := hf_ 1 42 _ (by decide) rfl rfl
        have h43 : f_ 43 = (.int .i64 (acts.length : Int)) := hf_ 2 43 _ (by decide) rfl rfl
        have h44 : f_ 44 = (.bool true) := hf_ 3 44 _ (by decide) rfl rfl
        have h45 : f_ 45 = (.bool true) := hf_ 4 45 _ (by decide) rfl rfl
        have h46 : f_ 46 = (.int .i64 (k : Int)) := hf_ 5 46 _ (by decide) rfl rfl
        have h47 : f_ 47 = (.bool true) := hf_ 6 47 _ (by decide) rfl rfl
        have h48 : f_ 48 = (.bool true) := hf_ 7 48 _ (by decide) rfl rfl
        have h49 : f_ 49 = (.bool true) := hf_ 8 49 _ (by decide) rfl rfl
        have h50 : f_ 50 = (.pointer (some ⟨g, 0, none⟩)) := hf_ 9 50 _ (by decide) rfl rfl
        have h51 : f_ 51 = (.bool true) := hf_ 10 51 _ (by decide) rfl rfl
        have h52 : f_ 52 = (.bool true) := hf_ 11 52 _ (by decide) rfl rfl
        simp only [mix, h41, h42, h43, h44, h45, h46, h47, h48, h49, h50, h51, h52]
        clear h41 h42 h43 h44 h45 h46 h47 h48 h49 h50 h51 h52
        clear hf_
        obtain ⟨wa, hwa⟩ : ∃ wa, wa = w_ := ⟨_, rfl⟩
        rw [← hwa] at hx_ ⊢
        clear hwa
        have hI1 := HI.out.below' hx_
        obtain ⟨a, ha⟩ : ∃ a, a = acts[k] := ⟨_, rfl⟩
        have hao : ActOk w a := by rw [ha]; exact HOK.out _ (List.getElem_mem hlt)
        obtain ⟨bs, offs, rfl, hbs, hcs0⟩ := HRS.out.at_ (k := k * 4) (by
          have h1 := acts_get hlt 0 (.int .i64 acts[k].kind) rfl
          exact (List.getElem?_eq_some_iff.1 h1).1)
        have hcA : ∀ j v, a.cells[j]? = some v → wa.cell? ⟨bs, offs + k * 4 + j, none⟩ = some v := by
          intro j v hv
          rw [ha] at hv
          have h1 := hcs0 (k * 4 + j) v (acts_get hlt j v hv)
          rw [← Nat.add_assoc] at h1
          exact (hI1.below.cell (p := ⟨bs, offs + k * 4 + j, none⟩) hbs).trans h1
        have HI1 := hid hI1
        have HAO := hid hao
        clear hI1 hao ha hcs0 HI hx_ hbs
        by_cases h100 : 100 < a.bytes.length
        · have h100i : (100 : Int) < (a.bytes.length : Int) := by omega
          go_wp2_with fail
          refine wp_hold ?_
          go_wp2_with (first
            | ((with_reducible refine wpAtC ?_); refine wpList_load_agg rfl _ _ rfl bs (offs + k * 4) rfl a.cells (aggAct a) hcA ?_; simp only [Act.put, List.setIfInBounds_toArray, List.set_cons_succ, List.set_cons_zero])
            | ((with_reducible refine wpAtC ?_); refine wpList_alloc rfl _ rfl zeroAct ?_; intro gA w5 hgA hgA' hzA hb5; simp only [Act.put, List.setIfInBounds_toArray, List.set_cons_succ, List.set_cons_zero])
            | ((with_reducible refine wpAtC ?_); refine wpList_store_agg rfl _ _ _ rfl _ _ rfl a.cells.toArray rfl (aggActS a) hzA (szAct a) (oneAct a) ?_; intro w6 hp6; simp only [Act.put]; rw [splAct a] at hp6; have hA6 := hp6.blk; have c3 : w6.cell? ⟨gA, 3, none⟩ = some (.slice a.Ab a.bytes.length a.cb) := hA6.cell 3; have hcb := HAO.out.bm))
          have hI6 := HI1.out.below' (hb5.trans (hp6.below hgA))
          exact bodyPost_ret (results_tmp rfl _ _ _) rfl ⟨rfl, hI6.below⟩
        have h100i : ¬ (100 : Int) < (a.bytes.length : Int) := by omega
        go_wp2_with fail
        refine wp_hold ?_
        go_wp2_with (first
          | ((with_reducible refine wpAtC ?_); refine wpList_load_agg rfl _ _ rfl bs (offs + k * 4) rfl a.cells (aggAct a) hcA ?_; simp only [Act.put, List.setIfInBounds_toArray, List.set_cons_succ, List.set_cons_zero])
          | ((with_reducible refine wpAtC ?_); refine wpList_alloc rfl _ rfl zeroAct ?_; intro gA w5 hgA hgA' hzA hb5; simp only [Act.put, List.setIfInBounds_toArray, List.set_cons_succ, List.set_cons_zero])
          | ((with_reducible refine wpAtC ?_); refine wpList_store_agg rfl _ _ _ rfl _ _ rfl a.cells.toArray rfl (aggActS a) hzA (szAct a) (oneAct a) ?_; intro w6 hp6; simp only [Act.put]; rw [splAct a] at hp6; have hA6 := hp6.blk; have c3 : w6.cell? ⟨gA, 3, none⟩ = some (.slice a.Ab a.bytes.length a.cb) := hA6.cell 3; have hcb := HAO.out.bm))
        have hI6 := HI1.out.below' (hb5.trans (hp6.below hgA))
        have HI6 := hid hI6
        have HA6 := hid hA6
        have q0 : w6.cell? ⟨gA, 0, none⟩ = some (.int .i64 a.kind) := hA6.cell 0
        have hgAw : w0.heap.size ≤ gA := Nat.le_trans HI1.out.size hgA
        have HBW6 := hid hI6.below
        clear hI6 hA6 hp6 hb5 hzA hcA HI1 c3 hgA hgA'
        refine wp_hold ?_
        refine wp_cut [false, false, false, false, false, false, false, true, false, true, false, false, true, false, false, false, false, false, false, false, false, false, false, false, false, false, false, false, false, false, false, false, false, false, false, false, false, false, false, false, false, false, false, false, false, false, false, false, false, false, false, false, false, false, false, false, false, false, false, false, false, false, false, true, true, true, true, true, true, true, true, true, true, true, true, true, true, true, true, true, true, true, true, true, true, true, true, true, true, true, true, true, true, true, true, true, true, true, true, true, true, true, true, true, true, true, true, true, true, true, true, true, true, true, true, true, true, true, true, true, true, true, true, true, true, false, false, false, false, false, false, false, false, false, false, false, false, false, false, false, false, false, false, false, false, false, false, false, false, false, false, false, false, false, false, false, false, false, false, false, false, false, false, false, false, false, false, false] (fun f wr => ∃ (D : DS) (A : Option Addr) (c : Nat) (A2 : Option Addr) (c2 : Nat) (e : Int), f 7 = .int .i64 e ∧ f 9 = .int .i64 e ∧ PlayI w w0.heap.size g g8 (k + 1) D A c A2 c2 wr) ?inside ?behind
        case inside =>
          intro KC HKC
          obtain ⟨x15, hx15, hand15⟩ := and15 a.kind
          by_cases hw : x15 ≤ 6
          · rcases (show x15 = 0 ∨ x15 = 1 ∨ x15 = 2 ∨ x15 = 3 ∨ x15 = 4 ∨ x15 = 5 ∨ x15 = 6 by omega) with rfl | rfl | rfl | rfl | rfl | rfl | rfl
            · skip
              have q1 : w6.cell? ⟨gA, 1, none⟩ = some (.int .i64 a.i) := HA6.out.cell 1
              have q2 : w6.cell? ⟨gA, 2, none⟩ = some (.int .i64 a.n) := HA6.out.cell 2
              have q3 : w6.cell? ⟨gA, 3, none⟩ = some (.slice a.Ab a.bytes.length a.cb) := HA6.out.cell 3
              go_wp2_with fail
              refine wp_hold ?_
              go_wp2_with fail
              refine (full_any w6 (HAO.out.b.below HBW6.out) HBW6.out.size (by unfold maxLen; omega) _).mono ?_
              rintro e w7 ⟨gf, rfl, hgf, hbf, hb7⟩
              have hI7 := HI6.out.below' hb7
              have hA7 := HA6.out.below hb7 HA6.out.lt
              have q1 : w7.cell? ⟨gA, 1, none⟩ = some (.int .i64 a.i) := hA7.cell 1
              obtain ⟨odd, hodd⟩ : ∃ o, o = (a.n == 1) := ⟨_, rfl⟩
              try rw [← hodd]
              try rw [← hodd] at hbf
              obtain ⟨hrf, hof⟩ := full_out hbf odd
              have hfl := fullR_le a.bytes odd
              obtain ⟨fb, hfb⟩ : ∃ fb, fb = fullR a.bytes odd := ⟨_, rfl⟩
              rw [← hfb] at hrf hfl ⊢
              have HI7 := hid hI7
              have HA7 := hid hA7
              have HRF := hid hrf
              have HOF := hid hof
              have HFL := hid hfl
              clear hbf hI7 hA7 hb7 HI6 HA6 hodd hrf hof hfl hfb q0 q2 q3
              go_wp2_with fail
              refine (Write_any w7 HI7.out.disk HI7.out.size a.i (l := fb) (Nat.le_trans HFL.out (by decide)) (Kp.of_out HRF.out HOF.out) (Nat.le_refl _) (by have := HI7.out.room; omega)).mono ?_
              rintro e w8 ⟨rfl, hd8, hf8⟩
              have hr8 := HI7.out.ref.dfr hf8
              have hblk8 : Blk w8 g8 tRD (rcs A1 D.n c1 A2 D.loose.length c2 D.fails D.dead).toArray := hf8.keep g8 _ _ _ HI7.out.blk (by decide) (by decide)
              have hA8 : Blk w8 gA tAct a.cells.toArray := hf8.keep gA _ _ _ HA7.out (by decide) (by decide)
              have hcv := conv_str (P := Try.prog) (src := 22) (dst := 9) (w := w8) Try.underlying22 Try.underlying5 Try.underlying9 256 (HRF.out.dfr HOF.out hf8)
              have q1 : w8.cell? ⟨gA, 1, none⟩ = some (.int .i64 a.i) := hA8.cell 1
              have hfr := HI7.out.disk.okk.f2
              have hbl8 := HI7.out.below.trans (hf8.below.mono (hwB))
              have hsz8 := Nat.le_trans HI7.out.size hf8.below.size
              have hpl := writeD_play a.i fb HI7.out.inn
              have hn7 := HI7.out.n
              have hro7 := HI7.out.room
              have HR8 := hid hr8
              have HD8 := hid hd8
              have HBL := hid hbl8
              have HPL := hid hpl
              have HN7 := hid hn7
              clear HI7 HA7 HRF HOF hf8 hr8 hd8 hA8 hbl8 hpl hn7
              go_wp2_with fail
              refine wp_hold ?_
              go_wp2_with ((with_reducible refine wpAtC ?_); refine wpList_load_agg rfl _ _ rfl _ _ rfl (rcs A1 D.n c1 A2 D.loose.length c2 D.fails D.dead) aggRD (blk_cells hblk8) ?_)
              refine (rWrite_any w8 HR8.out (by have := HN7.out; omega) (by omega) hfr a.i fb (by have := HFL.out; omega)).mono ?_
              rintro e w9 ⟨A3, c3, rfl, hr9, hb9⟩
              have hblk9 := hblk8.below hb9 hblk8.lt
              have HR9 := hid hr9
              have HB9 := hid hb9
              obtain ⟨E, hE⟩ : ∃ E, E = writeD D a.i fb := ⟨_, rfl⟩
              rw [← hE] at HR9 HPL HD8 ⊢
              clear hr9 hb9 hblk8 hcv hE HR8
              go_wp2_with ((with_reducible refine wpAtC ?_); refine wpList_store_agg rfl _ _ _ rfl _ _ rfl (rcs A1 E.n c1 A3 E.loose.length c3 E.fails E.dead).toArray rfl aggRD hblk9 (Nat.le_refl 4) oneRD ?_; intro w10 hp10)
              refine cut_leaf HKC (by kernel_rfl) ?_
              have hbE := HBL.out
              exact ⟨E, A1, c1, A3, c3, _, rfl, rfl, ⟨(HD8.out.below HB9.out).put hblk9 hp10, HR9.out.put hblk9 hp10, hp10.blk, bx_put (bx_trans hbE HB9.out) hp10 hg8w, by rw [hp10.size]; exact Nat.le_trans hsz8 HB9.out.size, by rw [HPL.out.2.1]; exact HN7.out, by have := HPL.out.2.2; omega, HPL.out.1⟩⟩
            · skip
              have q1 : w6.cell? ⟨gA, 1, none⟩ = some (.int .i64 a.i) := HA6.out.cell 1
              have q2 : w6.cell? ⟨gA, 2, none⟩ = some (.int .i64 a.n) := HA6.out.cell 2
              have q3 : w6.cell? ⟨gA, 3, none⟩ = some (.slice a.Ab a.bytes.length a.cb) := HA6.out.cell 3
              go_wp2_with fail
              refine wp_hold ?_
              go_wp2_with fail
              refine (full_any w6 (HAO.out.b.below HBW6.out) HBW6.out.size (by unfold maxLen; omega) _).mono ?_
              rintro e w7 ⟨gf, rfl, hgf, hbf, hb7⟩
              have hI7 := HI6.out.below' hb7
              have hA7 := HA6.out.below hb7 HA6.out.lt
              have q1 : w7.cell? ⟨gA, 1, none⟩ = some (.int .i64 a.i) := hA7.cell 1
              obtain ⟨odd, hodd⟩ : ∃ o, o = (a.n == 1) := ⟨_, rfl⟩
              try rw [← hodd]
              try rw [← hodd] at hbf
              obtain ⟨hrf, hof⟩ := full_out hbf odd
              have hfl := fullR_le a.bytes odd
              obtain ⟨fb, hfb⟩ : ∃ fb, fb = fullR a.bytes odd := ⟨_, rfl⟩
              rw [← hfb] at hrf hfl ⊢
              have HI7 := hid hI7
              have HA7 := hid hA7
              have HRF := hid hrf
              have HOF := hid hof
              have HFL := hid hfl
              clear hbf hI7 hA7 hb7 HI6 HA6 hodd hrf hof hfl hfb q0 q2 q3
              go_wp2_with fail
              refine (Write_any w7 HI7.out.disk HI7.out.size a.i (l := fb) (Nat.le_trans HFL.out (by decide)) (Kp.of_out HRF.out HOF.out) (Nat.le_refl _) (by have := HI7.out.room; omega)).mono ?_
              rintro e w8 ⟨rfl, hd8, hf8⟩
              have hr8 := HI7.out.ref.dfr hf8
              have hblk8 : Blk w8 g8 tRD (rcs A1 D.n c1 A2 D.loose.length c2 D.fails D.dead).toArray := hf8.keep g8 _ _ _ HI7.out.blk (by decide) (by decide)
              have hA8 : Blk w8 gA tAct a.cells.toArray := hf8.keep gA _ _ _ HA7.out (by decide) (by decide)
              have hcv := conv_str (P := Try.prog) (src := 22) (dst := 9) (w := w8) Try.underlying22 Try.underlying5 Try.underlying9 256 (HRF.out.dfr HOF.out hf8)
              have q1 : w8.cell? ⟨gA, 1, none⟩ = some (.int .i64 a.i) := hA8.cell 1
              have hfr := HI7.out.disk.okk.f2
              have hbl8 := HI7.out.below.trans (hf8.below.mono (hwB))
              have hsz8 := Nat.le_trans HI7.out.size hf8.below.size
              have hpl := writeD_play a.i fb HI7.out.inn
              have hn7 := HI7.out.n
              have hro7 := HI7.out.room
              have HR8 := hid hr8
              have HD8 := hid hd8
              have HBL := hid hbl8
              have HPL := hid hpl
              have HN7 := hid hn7
              clear HI7 HA7 HRF HOF hf8 hr8 hd8 hA8 hbl8 hpl hn7
              go_wp2_with fail
              refine wp_hold ?_
              go_wp2_with ((with_reducible refine wpAtC ?_); refine wpList_load_agg rfl _ _ rfl _ _ rfl (rcs A1 D.n c1 A2 D.loose.length c2 D.fails D.dead) aggRD (blk_cells hblk8) ?_)
              refine (rWrite_any w8 HR8.out (by have := HN7.out; omega) (by omega) hfr a.i fb (by have := HFL.out; omega)).mono ?_
              rintro e w9 ⟨A3, c3, rfl, hr9, hb9⟩
              have hblk9 := hblk8.below hb9 hblk8.lt
              have HR9 := hid hr9
              have HB9 := hid hb9
              obtain ⟨E, hE⟩ : ∃ E, E = writeD D a.i fb := ⟨_, rfl⟩
              rw [← hE] at HR9 HPL HD8 ⊢
              clear hr9 hb9 hblk8 hcv hE HR8
              go_wp2_with ((with_reducible refine wpAtC ?_); refine wpList_store_agg rfl _ _ _ rfl _ _ rfl (rcs A1 E.n c1 A3 E.loose.length c3 E.fails E.dead).toArray rfl aggRD hblk9 (Nat.le_refl 4) oneRD ?_; intro w10 hp10)
              refine cut_leaf HKC (by kernel_rfl) ?_
              have hbE := HBL.out
              exact ⟨E, A1, c1, A3, c3, _, rfl, rfl, ⟨(HD8.out.below HB9.out).put hblk9 hp10, HR9.out.put hblk9 hp10, hp10.blk, bx_put (bx_trans hbE HB9.out) hp10 hg8w, by rw [hp10.size]; exact Nat.le_trans hsz8 HB9.out.size, by rw [HPL.out.2.1]; exact HN7.out, by have := HPL.out.2.2; omega, HPL.out.1⟩⟩
            · skip
              have q1 : w6.cell? ⟨gA, 1, none⟩ = some (.int .i64 a.i) := HA6.out.cell 1
              have q2 : w6.cell? ⟨gA, 2, none⟩ = some (.int .i64 a.n) := HA6.out.cell 2
              have q3 : w6.cell? ⟨gA, 3, none⟩ = some (.slice a.Ab a.bytes.length a.cb) := HA6.out.cell 3
              go_wp2_with fail
              refine wp_hold ?_
              go_wp2_with fail
              refine (full_any w6 (HAO.out.b.below HBW6.out) HBW6.out.size (by unfold maxLen; omega) _).mono ?_
              rintro e w7 ⟨gf, rfl, hgf, hbf, hb7⟩
              have hI7 := HI6.out.below' hb7
              have hA7 := HA6.out.below hb7 HA6.out.lt
              have q1 : w7.cell? ⟨gA, 1, none⟩ = some (.int .i64 a.i) := hA7.cell 1
              obtain ⟨odd, hodd⟩ : ∃ o, o = (a.n == 1) := ⟨_, rfl⟩
              try rw [← hodd]
              try rw [← hodd] at hbf
              obtain ⟨hrf, hof⟩ := full_out hbf odd
              have hfl := fullR_le a.bytes odd
              obtain ⟨fb, hfb⟩ : ∃ fb, fb = fullR a.bytes odd := ⟨_, rfl⟩
              rw [← hfb] at hrf hfl ⊢
              have HI7 := hid hI7
              have HA7 := hid hA7
              have HRF := hid hrf
              have HOF := hid hof
              have HFL := hid hfl
              clear hbf hI7 hA7 hb7 HI6 HA6 hodd hrf hof hfl hfb q0 q2 q3
              go_wp2_with fail
              refine (Write_any w7 HI7.out.disk HI7.out.size a.i (l := fb) (Nat.le_trans HFL.out (by decide)) (Kp.of_out HRF.out HOF.out) (Nat.le_refl _) (by have := HI7.out.room; omega)).mono ?_
              rintro e w8 ⟨rfl, hd8, hf8⟩
              have hr8 := HI7.out.ref.dfr hf8
              have hblk8 : Blk w8 g8 tRD (rcs A1 D.n c1 A2 D.loose.length c2 D.fails D.dead).toArray := hf8.keep g8 _ _ _ HI7.out.blk (by decide) (by decide)
              have hA8 : Blk w8 gA tAct a.cells.toArray := hf8.keep gA _ _ _ HA7.out (by decide) (by decide)
              have hcv := conv_str (P := Try.prog) (src := 22) (dst := 9) (w := w8) Try.underlying22 Try.underlying5 Try.underlying9 256 (HRF.out.dfr HOF.out hf8)
              have q1 : w8.cell? ⟨gA, 1, none⟩ = some (.int .i64 a.i) := hA8.cell 1
              have hfr := HI7.out.disk.okk.f2
              have hbl8 := HI7.out.below.trans (hf8.below.mono (hwB))
              have hsz8 := Nat.le_trans HI7.out.size hf8.below.size
              have hpl := writeD_play a.i fb HI7.out.inn
              have hn7 := HI7.out.n
              have hro7 := HI7.out.room
              have HR8 := hid hr8
              have HD8 := hid hd8
              have HBL := hid hbl8
              have HPL := hid hpl
              have HN7 := hid hn7
              clear HI7 HA7 HRF HOF hf8 hr8 hd8 hA8 hbl8 hpl hn7
              go_wp2_with fail
              refine wp_hold ?_
              go_wp2_with ((with_reducible refine wpAtC ?_); refine wpList_load_agg rfl _ _ rfl _ _ rfl (rcs A1 D.n c1 A2 D.loose.length c2 D.fails D.dead) aggRD (blk_cells hblk8) ?_)
              refine (rWrite_any w8 HR8.out (by have := HN7.out; omega) (by omega) hfr a.i fb (by have := HFL.out; omega)).mono ?_
              rintro e w9 ⟨A3, c3, rfl, hr9, hb9⟩
              have hblk9 := hblk8.below hb9 hblk8.lt
              have HR9 := hid hr9
              have HB9 := hid hb9
              obtain ⟨E, hE⟩ : ∃ E, E = writeD D a.i fb := ⟨_, rfl⟩
              rw [← hE] at HR9 HPL HD8 ⊢
              clear hr9 hb9 hblk8 hcv hE HR8
              go_wp2_with ((with_reducible refine wpAtC ?_); refine wpList_store_agg rfl _ _ _ rfl _ _ rfl (rcs A1 E.n c1 A3 E.loose.length c3 E.fails E.dead).toArray rfl aggRD hblk9 (Nat.le_refl 4) oneRD ?_; intro w10 hp10)
              refine cut_leaf HKC (by kernel_rfl) ?_
              have hbE := HBL.out
              exact ⟨E, A1, c1, A3, c3, _, rfl, rfl, ⟨(HD8.out.below HB9.out).put hblk9 hp10, HR9.out.put hblk9 hp10, hp10.blk, bx_put (bx_trans hbE HB9.out) hp10 hg8w, by rw [hp10.size]; exact Nat.le_trans hsz8 HB9.out.size, by rw [HPL.out.2.1]; exact HN7.out, by have := HPL.out.2.2; omega, HPL.out.1⟩⟩
            · skip
              have q1 : w6.cell? ⟨gA, 1, none⟩ = some (.int .i64 a.i) := HA6.out.cell 1
              have q2 : w6.cell? ⟨gA, 2, none⟩ = some (.int .i64 a.n) := HA6.out.cell 2
              have q3 : w6.cell? ⟨gA, 3, none⟩ = some (.slice a.Ab a.bytes.length a.cb) := HA6.out.cell 3
              go_wp2_with fail
              refine wp_hold ?_
              go_wp2_with fail
              refine (full_any w6 (HAO.out.b.below HBW6.out) HBW6.out.size (by unfold maxLen; omega) _).mono ?_
              rintro e w7 ⟨gf, rfl, hgf, hbf, hb7⟩
              have hI7 := HI6.out.below' hb7
              have hA7 := HA6.out.below hb7 HA6.out.lt
              have q1 : w7.cell? ⟨gA, 1, none⟩ = some (.int .i64 a.i) := hA7.cell 1
              obtain ⟨odd, hodd⟩ : ∃ o, o = (a.n == 1) := ⟨_, rfl⟩
              try rw [← hodd]
              try rw [← hodd] at hbf
              obtain ⟨hrf, hof⟩ := full_out hbf odd
              have hfl := fullR_le a.bytes odd
              obtain ⟨fb, hfb⟩ : ∃ fb, fb = fullR a.bytes odd := ⟨_, rfl⟩
              rw [← hfb] at hrf hfl ⊢
              have HI7 := hid hI7
              have HA7 := hid hA7
              have HRF := hid hrf
              have HOF := hid hof
              have HFL := hid hfl
              clear hbf hI7 hA7 hb7 HI6 HA6 hodd hrf hof hfl hfb q0 q2 q3
              go_wp2_with fail
              refine (Write_any w7 HI7.out.disk HI7.out.size a.i (l := fb) (Nat.le_trans HFL.out (by decide)) (Kp.of_out HRF.out HOF.out) (Nat.le_refl _) (by have := HI7.out.room; omega)).mono ?_
              rintro e w8 ⟨rfl, hd8, hf8⟩
              have hr8 := HI7.out.ref.dfr hf8
              have hblk8 : Blk w8 g8 tRD (rcs A1 D.n c1 A2 D.loose.length c2 D.fails D.dead).toArray := hf8.keep g8 _ _ _ HI7.out.blk (by decide) (by decide)
              have hA8 : Blk w8 gA tAct a.cells.toArray := hf8.keep gA _ _ _ HA7.out (by decide) (by decide)
              have hcv := conv_str (P := Try.prog) (src := 22) (dst := 9) (w := w8) Try.underlying22 Try.underlying5 Try.underlying9 256 (HRF.out.dfr HOF.out hf8)
              have q1 : w8.cell? ⟨gA, 1, none⟩ = some (.int .i64 a.i) := hA8.cell 1
              have hfr := HI7.out.disk.okk.f2
              have hbl8 := HI7.out.below.trans (hf8.below.mono (hwB))
              have hsz8 := Nat.le_trans HI7.out.size hf8.below.size
              have hpl := writeD_play a.i fb HI7.out.inn
              have hn7 := HI7.out.n
              have hro7 := HI7.out.room
              have HR8 := hid hr8
              have HD8 := hid hd8
              have HBL := hid hbl8
              have HPL := hid hpl
              have HN7 := hid hn7
              clear HI7 HA7 HRF HOF hf8 hr8 hd8 hA8 hbl8 hpl hn7
              go_wp2_with fail
              refine wp_hold ?_
              go_wp2_with ((with_reducible refine wpAtC ?_); refine wpList_load_agg rfl _ _ rfl _ _ rfl (rcs A1 D.n c1 A2 D.loose.length c2 D.fails D.dead) aggRD (blk_cells hblk8) ?_)
              refine (rWrite_any w8 HR8.out (by have := HN7.out; omega) (by omega) hfr a.i fb (by have := HFL.out; omega)).mono ?_
              rintro e w9 ⟨A3, c3, rfl, hr9, hb9⟩
              have hblk9 := hblk8.below hb9 hblk8.lt
              have HR9 := hid hr9
              have HB9 := hid hb9
              obtain ⟨E, hE⟩ : ∃ E, E = writeD D a.i fb := ⟨_, rfl⟩
              rw [← hE] at HR9 HPL HD8 ⊢
              clear hr9 hb9 hblk8 hcv hE HR8
              go_wp2_with ((with_reducible refine wpAtC ?_); refine wpList_store_agg rfl _ _ _ rfl _ _ rfl (rcs A1 E.n c1 A3 E.loose.length c3 E.fails E.dead).toArray rfl aggRD hblk9 (Nat.le_refl 4) oneRD ?_; intro w10 hp10)
              refine cut_leaf HKC (by kernel_rfl) ?_
              have hbE := HBL.out
              exact ⟨E, A1, c1, A3, c3, _, rfl, rfl, ⟨(HD8.out.below HB9.out).put hblk9 hp10, HR9.out.put hblk9 hp10, hp10.blk, bx_put (bx_trans hbE HB9.out) hp10 hg8w, by rw [hp10.size]; exact Nat.le_trans hsz8 HB9.out.size, by rw [HPL.out.2.1]; exact HN7.out, by have := HPL.out.2.2; omega, HPL.out.1⟩⟩
            · skip
              have q1 : w6.cell? ⟨gA, 1, none⟩ = some (.int .i64 a.i) := HA6.out.cell 1
              have q2 : w6.cell? ⟨gA, 2, none⟩ = some (.int .i64 a.n) := HA6.out.cell 2
              have q3 : w6.cell? ⟨gA, 3, none⟩ = some (.slice a.Ab a.bytes.length a.cb) := HA6.out.cell 3
              go_wp2_with fail
              refine wp_hold ?_
              go_wp2_with fail
              refine (full_any w6 (HAO.out.b.below HBW6.out) HBW6.out.size (by unfold maxLen; omega) _).mono ?_
              rintro e w7 ⟨gf, rfl, hgf, hbf, hb7⟩
              have hI7 := HI6.out.below' hb7
              have hA7 := HA6.out.below hb7 HA6.out.lt
              have q1 : w7.cell? ⟨gA, 1, none⟩ = some (.int .i64 a.i) := hA7.cell 1
              obtain ⟨odd, hodd⟩ : ∃ o, o = (a.n == 1) := ⟨_, rfl⟩
              try rw [← hodd]
              try rw [← hodd] at hbf
              obtain ⟨hrf, hof⟩ := full_out hbf odd
              have hfl := fullR_le a.bytes odd
              obtain ⟨fb, hfb⟩ : ∃ fb, fb = fullR a.bytes odd := ⟨_, rfl⟩
              rw [← hfb] at hrf hfl ⊢
              have HI7 := hid hI7
              have HA7 := hid hA7
              have HRF := hid hrf
              have HOF := hid hof
              have HFL := hid hfl
              clear hbf hI7 hA7 hb7 HI6 HA6 hodd hrf hof hfl hfb q0 q2 q3
              go_wp2_with fail
              refine (Write_any w7 HI7.out.disk HI7.out.size a.i (l := fb) (Nat.le_trans HFL.out (by decide)) (Kp.of_out HRF.out HOF.out) (Nat.le_refl _) (by have := HI7.out.room; omega)).mono ?_
              rintro e w8 ⟨rfl, hd8, hf8⟩
              have hr8 := HI7.out.ref.dfr hf8
              have hblk8 : Blk w8 g8 tRD (rcs A1 D.n c1 A2 D.loose.length c2 D.fails D.dead).toArray := hf8.keep g8 _ _ _ HI7.out.blk (by decide) (by decide)
              have hA8 : Blk w8 gA tAct a.cells.toArray := hf8.keep gA _ _ _ HA7.out (by decide) (by decide)
              have hcv := conv_str (P := Try.prog) (src := 22) (dst := 9) (w := w8) Try.underlying22 Try.underlying5 Try.underlying9 256 (HRF.out.dfr HOF.out hf8)
              have q1 : w8.cell? ⟨gA, 1, none⟩ = some (.int .i64 a.i) := hA8.cell 1
              have hfr := HI7.out.disk.okk.f2
              have hbl8 := HI7.out.below.trans (hf8.below.mono (hwB))
              have hsz8 := Nat.le_trans HI7.out.size hf8.below.size
              have hpl := writeD_play a.i fb HI7.out.inn
              have hn7 := HI7.out.n
              have hro7 := HI7.out.room
              have HR8 := hid hr8
              have HD8 := hid hd8
              have HBL := hid hbl8
              have HPL := hid hpl
              have HN7 := hid hn7
              clear HI7 HA7 HRF HOF hf8 hr8 hd8 hA8 hbl8 hpl hn7
              go_wp2_with fail
              refine wp_hold ?_
              go_wp2_with ((with_reducible refine wpAtC ?_); refine wpList_load_agg rfl _ _ rfl _ _ rfl (rcs A1 D.n c1 A2 D.loose.length c2 D.fails D.dead) aggRD (blk_cells hblk8) ?_)
              refine (rWrite_any w8 HR8.out (by have := HN7.out; omega) (by omega) hfr a.i fb (by have := HFL.out; omega)).mono ?_
              rintro e w9 ⟨A3, c3, rfl, hr9, hb9⟩
              have hblk9 := hblk8.below hb9 hblk8.lt
              have HR9 := hid hr9
              have HB9 := hid hb9
              obtain ⟨E, hE⟩ : ∃ E, E = writeD D a.i fb := ⟨_, rfl⟩
              rw [← hE] at HR9 HPL HD8 ⊢
              clear hr9 hb9 hblk8 hcv hE HR8
              go_wp2_with ((with_reducible refine wpAtC ?_); refine wpList_store_agg rfl _ _ _ rfl _ _ rfl (rcs A1 E.n c1 A3 E.loose.length c3 E.fails E.dead).toArray rfl aggRD hblk9 (Nat.le_refl 4) oneRD ?_; intro w10 hp10)
              refine cut_leaf HKC (by kernel_rfl) ?_
              have hbE := HBL.out
              exact ⟨E, A1, c1, A3, c3, _, rfl, rfl, ⟨(HD8.out.below HB9.out).put hblk9 hp10, HR9.out.put hblk9 hp10, hp10.blk, bx_put (bx_trans hbE HB9.out) hp10 hg8w, by rw [hp10.size]; exact Nat.le_trans hsz8 HB9.out.size, by rw [HPL.out.2.1]; exact HN7.out, by have := HPL.out.2.2; omega, HPL.out.1⟩⟩
            · skip
              have q1 : w6.cell? ⟨gA, 1, none⟩ = some (.int .i64 a.i) := HA6.out.cell 1
              have q2 : w6.cell? ⟨gA, 2, none⟩ = some (.int .i64 a.n) := HA6.out.cell 2
              have q3 : w6.cell? ⟨gA, 3, none⟩ = some (.slice a.Ab a.bytes.length a.cb) := HA6.out.cell 3
              go_wp2_with fail
              refine wp_hold ?_
              go_wp2_with fail
              refine (full_any w6 (HAO.out.b.below HBW6.out) HBW6.out.size (by unfold maxLen; omega) _).mono ?_
              rintro e w7 ⟨gf, rfl, hgf, hbf, hb7⟩
              have hI7 := HI6.out.below' hb7
              have hA7 := HA6.out.below hb7 HA6.out.lt
              have q1 : w7.cell? ⟨gA, 1, none⟩ = some (.int .i64 a.i) := hA7.cell 1
              obtain ⟨odd, hodd⟩ : ∃ o, o = (a.n == 1) := ⟨_, rfl⟩
              try rw [← hodd]
              try rw [← hodd] at hbf
              obtain ⟨hrf, hof⟩ := full_out hbf odd
              have hfl := fullR_le a.bytes odd
              obtain ⟨fb, hfb⟩ : ∃ fb, fb = fullR a.bytes odd := ⟨_, rfl⟩
              rw [← hfb] at hrf hfl ⊢
              have HI7 := hid hI7
              have HA7 := hid hA7
              have HRF := hid hrf
              have HOF := hid hof
              have HFL := hid hfl
              clear hbf hI7 hA7 hb7 HI6 HA6 hodd hrf hof hfl hfb q0 q2 q3
              go_wp2_with fail
              refine (Write_any w7 HI7.out.disk HI7.out.size a.i (l := fb) (Nat.le_trans HFL.out (by decide)) (Kp.of_out HRF.out HOF.out) (Nat.le_refl _) (by have := HI7.out.room; omega)).mono ?_
              rintro e w8 ⟨rfl, hd8, hf8⟩
              have hr8 := HI7.out.ref.dfr hf8
              have hblk8 : Blk w8 g8 tRD (rcs A1 D.n c1 A2 D.loose.length c2 D.fails D.dead).toArray := hf8.keep g8 _ _ _ HI7.out.blk (by decide) (by decide)
              have hA8 : Blk w8 gA tAct a.cells.toArray := hf8.keep gA _ _ _ HA7.out (by decide) (by decide)
              have hcv := conv_str (P := Try.prog) (src := 22) (dst := 9) (w := w8) Try.underlying22 Try.underlying5 Try.underlying9 256 (HRF.out.dfr HOF.out hf8)
              have q1 : w8.cell? ⟨gA, 1, none⟩ = some (.int .i64 a.i) := hA8.cell 1
              have hfr := HI7.out.disk.okk.f2
              have hbl8 := HI7.out.below.trans (hf8.below.mono (hwB))
              have hsz8 := Nat.le_trans HI7.out.size hf8.below.size
              have hpl := writeD_play a.i fb HI7.out.inn
              have hn7 := HI7.out.n
              have hro7 := HI7.out.room
              have HR8 := hid hr8
              have HD8 := hid hd8
              have HBL := hid hbl8
              have HPL := hid hpl
              have HN7 := hid hn7
              clear HI7 HA7 HRF HOF hf8 hr8 hd8 hA8 hbl8 hpl hn7
              go_wp2_with fail
              refine wp_hold ?_
              go_wp2_with ((with_reducible refine wpAtC ?_); refine wpList_load_agg rfl _ _ rfl _ _ rfl (rcs A1 D.n c1 A2 D.loose.length c2 D.fails D.dead) aggRD (blk_cells hblk8) ?_)
              refine (rWrite_any w8 HR8.out (by have := HN7.out; omega) (by omega) hfr a.i fb (by have := HFL.out; omega)).mono ?_
              rintro e w9 ⟨A3, c3, rfl, hr9, hb9⟩
              have hblk9 := hblk8.below hb9 hblk8.lt
              have HR9 := hid hr9
              have HB9 := hid hb9
              obtain ⟨E, hE⟩ : ∃ E, E = writeD D a.i fb := ⟨_, rfl⟩
              rw [← hE] at HR9 HPL HD8 ⊢
              clear hr9 hb9 hblk8 hcv hE HR8
              go_wp2_with ((with_reducible refine wpAtC ?_); refine wpList_store_agg rfl _ _ _ rfl _ _ rfl (rcs A1 E.n c1 A3 E.loose.length c3 E.fails E.dead).toArray rfl aggRD hblk9 (Nat.le_refl 4) oneRD ?_; intro w10 hp10)
              refine cut_leaf HKC (by kernel_rfl) ?_
              have hbE := HBL.out
              exact ⟨E, A1, c1, A3, c3, _, rfl, rfl, ⟨(HD8.out.below HB9.out).put hblk9 hp10, HR9.out.put hblk9 hp10, hp10.blk, bx_put (bx_trans hbE HB9.out) hp10 hg8w, by rw [hp10.size]; exact Nat.le_trans hsz8 HB9.out.size, by rw [HPL.out.2.1]; exact HN7.out, by have := HPL.out.2.2; omega, HPL.out.1⟩⟩
            · skip
              have q1 : w6.cell? ⟨gA, 1, none⟩ = some (.int .i64 a.i) := HA6.out.cell 1
              have q2 : w6.cell? ⟨gA, 2, none⟩ = some (.int .i64 a.n) := HA6.out.cell 2
              have q3 : w6.cell? ⟨gA, 3, none⟩ = some (.slice a.Ab a.bytes.length a.cb) := HA6.out.cell 3
              go_wp2_with fail
              refine wp_hold ?_
              go_wp2_with fail
              refine (full_any w6 (HAO.out.b.below HBW6.out) HBW6.out.size (by unfold maxLen; omega) _).mono ?_
              rintro e w7 ⟨gf, rfl, hgf, hbf, hb7⟩
              have hI7 := HI6.out.below' hb7
              have hA7 := HA6.out.below hb7 HA6.out.lt
              have q1 : w7.cell? ⟨gA, 1, none⟩ = some (.int .i64 a.i) := hA7.cell 1
              obtain ⟨odd, hodd⟩ : ∃ o, o = (a.n == 1) := ⟨_, rfl⟩
              try rw [← hodd]
              try rw [← hodd] at hbf
              obtain ⟨hrf, hof⟩ := full_out hbf odd
              have hfl := fullR_le a.bytes odd
              obtain ⟨fb, hfb⟩ : ∃ fb, fb = fullR a.bytes odd := ⟨_, rfl⟩
              rw [← hfb] at hrf hfl ⊢
              have HI7 := hid hI7
              have HA7 := hid hA7
              have HRF := hid hrf
              have HOF := hid hof
              have HFL := hid hfl
              clear hbf hI7 hA7 hb7 HI6 HA6 hodd hrf hof hfl hfb q0 q2 q3
              go_wp2_with fail
              refine (Write_any w7 HI7.out.disk HI7.out.size a.i (l := fb) (Nat.le_trans HFL.out (by decide)) (Kp.of_out HRF.out HOF.out) (Nat.le_refl _) (by have := HI7.out.room; omega)).mono ?_
              rintro e w8 ⟨rfl, hd8, hf8⟩
              have hr8 := HI7.out.ref.dfr hf8
              have hblk8 : Blk w8 g8 tRD (rcs A1 D.n c1 A2 D.loose.length c2 D.fails D.dead).toArray := hf8.keep g8 _ _ _ HI7.out.blk (by decide) (by decide)
              have hA8 : Blk w8 gA tAct a.cells.toArray := hf8.keep gA _ _ _ HA7.out (by decide) (by decide)
              have hcv := conv_str (P := Try.prog) (src := 22) (dst := 9) (w := w8) Try.underlying22 Try.underlying5 Try.underlying9 256 (HRF.out.dfr HOF.out hf8)
              have q1 : w8.cell? ⟨gA, 1, none⟩ = some (.int .i64 a.i) := hA8.cell 1
              have hfr := HI7.out.disk.okk.f2
              have hbl8 := HI7.out.below.trans (hf8.below.mono (hwB))
              have hsz8 := Nat.le_trans HI7.out.size hf8.below.size
              have hpl := writeD_play a.i fb HI7.out.inn
              have hn7 := HI7.out.n
              have hro7 := HI7.out.room
              have HR8 := hid hr8
              have HD8 := hid hd8
              have HBL := hid hbl8
              have HPL := hid hpl
              have HN7 := hid hn7
              clear HI7 HA7 HRF HOF hf8 hr8 hd8 hA8 hbl8 hpl hn7
              go_wp2_with fail
              refine wp_hold ?_
              go_wp2_with ((with_reducible refine wpAtC ?_); refine wpList_load_agg rfl _ _ rfl _ _ rfl (rcs A1 D.n c1 A2 D.loose.length c2 D.fails D.dead) aggRD (blk_cells hblk8) ?_)
              refine (rWrite_any w8 HR8.out (by have := HN7.out; omega) (by omega) hfr a.i fb (by have := HFL.out; omega)).mono ?_
              rintro e w9 ⟨A3, c3, rfl, hr9, hb9⟩
              have hblk9 := hblk8.below hb9 hblk8.lt
              have HR9 := hid hr9
              have HB9 := hid hb9
              obtain ⟨E, hE⟩ : ∃ E, E = writeD D a.i fb := ⟨_, rfl⟩
              rw [← hE] at HR9 HPL HD8 ⊢
              clear hr9 hb9 hblk8 hcv hE HR8
              go_wp2_with ((with_reducible refine wpAtC ?_); refine wpList_store_agg rfl _ _ _ rfl _ _ rfl (rcs A1 E.n c1 A3 E.loose.length c3 E.fails E.dead).toArray rfl aggRD hblk9 (Nat.le_refl 4) oneRD ?_; intro w10 hp10)
              refine cut_leaf HKC (by kernel_rfl) ?_
              have hbE := HBL.out
              exact ⟨E, A1, c1, A3, c3, _, rfl, rfl, ⟨(HD8.out.below HB9.out).put hblk9 hp10, HR9.out.put hblk9 hp10, hp10.blk, bx_put (bx_trans hbE HB9.out) hp10 hg8w, by rw [hp10.size]; exact Nat.le_trans hsz8 HB9.out.size, by rw [HPL.out.2.1]; exact HN7.out, by have := HPL.out.2.2; omega, HPL.out.1⟩⟩
          by_cases hs : x15 ≤ 9
          · rcases (show x15 = 7 ∨ x15 = 8 ∨ x15 = 9 by omega) with rfl | rfl | rfl
            · skip
              have q1 : w6.cell? ⟨gA, 1, none⟩ = some (.int .i64 a.i) := HA6.out.cell 1
              have q2 : w6.cell? ⟨gA, 2, none⟩ = some (.int .i64 a.n) := HA6.out.cell 2
              have q3 : w6.cell? ⟨gA, 3, none⟩ = some (.slice a.Ab a.bytes.length a.cb) := HA6.out.cell 3
              go_wp2_with fail
              refine (Sync_any w6 HI6.out.disk).mono ?_
              rintro e w8 ⟨rfl, hd8, hf8⟩
              have HPL := hid (syncW_play HI6.out.inn)
              have hr8 := HI6.out.ref.dfr hf8
              have hblk8 : Blk w8 g8 tRD (rcs A1 D.n c1 A2 D.loose.length c2 D.fails D.dead).toArray := hf8.keep g8 _ _ _ HI6.out.blk (by decide) (by decide)
              have hA8 : Blk w8 gA tAct a.cells.toArray := hf8.keep gA _ _ _ HA6.out (by decide) (by decide)
              have hfr := HI6.out.disk.okk.f2
              have HOK6 := hid HI6.out.disk.okk
              have HIN6 := hid HI6.out.inn
              have hbl8 := HI6.out.below.trans (hf8.below.mono (hwB))
              have hsz8 := Nat.le_trans HI6.out.size hf8.below.size
              have hn7 := HI6.out.n
              have hro7 := HI6.out.room
              have q2 : w8.cell? ⟨gA, 2, none⟩ = some (.int .i64 a.n) := hA8.cell 2
              have q3 : w8.cell? ⟨gA, 3, none⟩ = some (.slice a.Ab a.bytes.length a.cb) := hA8.cell 3
              have HR8 := hid hr8
              have HD8 := hid hd8
              have HBL := hid hbl8
              have HN7 := hid hn7
              clear HI6 HA6 hf8 hr8 hd8 hA8 hbl8 hn7 q0
              go_wp2_with fail
              refine wp_hold ?_
              go_wp2_with ((with_reducible refine wpAtC ?_); refine wpList_load_agg rfl _ _ rfl _ _ rfl (rcs A1 D.n c1 A2 D.loose.length c2 D.fails D.dead) aggRD (blk_cells hblk8) ?_)
              refine (rSync_any w8 HR8.out (by have := HN7.out; omega) (by omega) hfr HIN6.out).mono ?_
              rintro e w9 ⟨A4, c4, A3, c3, rfl, hr9, hb9⟩
              have hblk9 := hblk8.below hb9 hblk8.lt
              have HR9 := hid hr9
              have HB9 := hid hb9
              obtain ⟨E, hE⟩ : ∃ E, E = syncW D := ⟨_, rfl⟩
              rw [← hE] at HR9 HPL HD8 ⊢
              clear hr9 hb9 hblk8 hE HR8
              go_wp2_with ((with_reducible refine wpAtC ?_); refine wpList_store_agg rfl _ _ _ rfl _ _ rfl (rcs A4 E.n c4 A3 E.loose.length c3 E.fails E.dead).toArray rfl aggRD hblk9 (Nat.le_refl 4) oneRD ?_; intro w10 hp10)
              refine cut_leaf HKC (by kernel_rfl) ?_
              have hbE := HBL.out
              exact ⟨E, A4, c4, A3, c3, _, rfl, rfl, ⟨(HD8.out.below HB9.out).put hblk9 hp10, HR9.out.put hblk9 hp10, hp10.blk, bx_put (bx_trans hbE HB9.out) hp10 hg8w, by rw [hp10.size]; exact Nat.le_trans hsz8 HB9.out.size, by rw [HPL.out.2.1]; exact HN7.out, by have := HPL.out.2.2; omega, HPL.out.1⟩⟩
            · skip
              have q1 : w6.cell? ⟨gA, 1, none⟩ = some (.int .i64 a.i) := HA6.out.cell 1
              have q2 : w6.cell? ⟨gA, 2, none⟩ = some (.int .i64 a.n) := HA6.out.cell 2
              have q3 : w6.cell? ⟨gA, 3, none⟩ = some (.slice a.Ab a.bytes.length a.cb) := HA6.out.cell 3
              go_wp2_with fail
              refine (Sync_any w6 HI6.out.disk).mono ?_
              rintro e w8 ⟨rfl, hd8, hf8⟩
              have HPL := hid (syncW_play HI6.out.inn)
              have hr8 := HI6.out.ref.dfr hf8
              have hblk8 : Blk w8 g8 tRD (rcs A1 D.n c1 A2 D.loose.length c2 D.fails D.dead).toArray := hf8.keep g8 _ _ _ HI6.out.blk (by decide) (by decide)
              have hA8 : Blk w8 gA tAct a.cells.toArray := hf8.keep gA _ _ _ HA6.out (by decide) (by decide)
              have hfr := HI6.out.disk.okk.f2
              have HOK6 := hid HI6.out.disk.okk
              have HIN6 := hid HI6.out.inn
              have hbl8 := HI6.out.below.trans (hf8.below.mono (hwB))
              have hsz8 := Nat.le_trans HI6.out.size hf8.below.size
              have hn7 := HI6.out.n
              have hro7 := HI6.out.room
              have q2 : w8.cell? ⟨gA, 2, none⟩ = some (.int .i64 a.n) := hA8.cell 2
              have q3 : w8.cell? ⟨gA, 3, none⟩ = some (.slice a.Ab a.bytes.length a.cb) := hA8.cell 3
              have HR8 := hid hr8
              have HD8 := hid hd8
              have HBL := hid hbl8
              have HN7 := hid hn7
              clear HI6 HA6 hf8 hr8 hd8 hA8 hbl8 hn7 q0
              go_wp2_with fail
              refine wp_hold ?_
              go_wp2_with ((with_reducible refine wpAtC ?_); refine wpList_load_agg rfl _ _ rfl _ _ rfl (rcs A1 D.n c1 A2 D.loose.length c2 D.fails D.dead) aggRD (blk_cells hblk8) ?_)
              refine (rSync_any w8 HR8.out (by have := HN7.out; omega) (by omega) hfr HIN6.out).mono ?_
              rintro e w9 ⟨A4, c4, A3, c3, rfl, hr9, hb9⟩
              have hblk9 := hblk8.below hb9 hblk8.lt
              have HR9 := hid hr9
              have HB9 := hid hb9
              obtain ⟨E, hE⟩ : ∃ E, E = syncW D := ⟨_, rfl⟩
              rw [← hE] at HR9 HPL HD8 ⊢
              clear hr9 hb9 hblk8 hE HR8
              go_wp2_with ((with_reducible refine wpAtC ?_); refine wpList_store_agg rfl _ _ _ rfl _ _ rfl (rcs A4 E.n c4 A3 E.loose.length c3 E.fails E.dead).toArray rfl aggRD hblk9 (Nat.le_refl 4) oneRD ?_; intro w10 hp10)
              refine cut_leaf HKC (by kernel_rfl) ?_
              have hbE := HBL.out
              exact ⟨E, A4, c4, A3, c3, _, rfl, rfl, ⟨(HD8.out.below HB9.out).put hblk9 hp10, HR9.out.put hblk9 hp10, hp10.blk, bx_put (bx_trans hbE HB9.out) hp10 hg8w, by rw [hp10.size]; exact Nat.le_trans hsz8 HB9.out.size, by rw [HPL.out.2.1]; exact HN7.out, by have := HPL.out.2.2; omega, HPL.out.1⟩⟩
            · skip
              have q1 : w6.cell? ⟨gA, 1, none⟩ = some (.int .i64 a.i) := HA6.out.cell 1
              have q2 : w6.cell? ⟨gA, 2, none⟩ = some (.int .i64 a.n) := HA6.out.cell 2
              have q3 : w6.cell? ⟨gA, 3, none⟩ = some (.slice a.Ab a.bytes.length a.cb) := HA6.out.cell 3
              go_wp2_with fail
              refine (Sync_any w6 HI6.out.disk).mono ?_
              rintro e w8 ⟨rfl, hd8, hf8⟩
              have HPL := hid (syncW_play HI6.out.inn)
              have hr8 := HI6.out.ref.dfr hf8
              have hblk8 : Blk w8 g8 tRD (rcs A1 D.n c1 A2 D.loose.length c2 D.fails D.dead).toArray := hf8.keep g8 _ _ _ HI6.out.blk (by decide) (by decide)
              have hA8 : Blk w8 gA tAct a.cells.toArray := hf8.keep gA _ _ _ HA6.out (by decide) (by decide)
              have hfr := HI6.out.disk.okk.f2
              have HOK6 := hid HI6.out.disk.okk
              have HIN6 := hid HI6.out.inn
              have hbl8 := HI6.out.below.trans (hf8.below.mono (hwB))
              have hsz8 := Nat.le_trans HI6.out.size hf8.below.size
              have hn7 := HI6.out.n
              have hro7 := HI6.out.room
              have q2 : w8.cell? ⟨gA, 2, none⟩ = some (.int .i64 a.n) := hA8.cell 2
              have q3 : w8.cell? ⟨gA, 3, none⟩ = some (.slice a.Ab a.bytes.length a.cb) := hA8.cell 3
              have HR8 := hid hr8
              have HD8 := hid hd8
              have HBL := hid hbl8
              have HN7 := hid hn7
              clear HI6 HA6 hf8 hr8 hd8 hA8 hbl8 hn7 q0
              go_wp2_with fail
              refine wp_hold ?_
              go_wp2_with ((with_reducible refine wpAtC ?_); refine wpList_load_agg rfl _ _ rfl _ _ rfl (rcs A1 D.n c1 A2 D.loose.length c2 D.fails D.dead) aggRD (blk_cells hblk8) ?_)
              refine (rSync_any w8 HR8.out (by have := HN7.out; omega) (by omega) hfr HIN6.out).mono ?_
              rintro e w9 ⟨A4, c4, A3, c3, rfl, hr9, hb9⟩
              have hblk9 := hblk8.below hb9 hblk8.lt
              have HR9 := hid hr9
              have HB9 := hid hb9
              obtain ⟨E, hE⟩ : ∃ E, E = syncW D := ⟨_, rfl⟩
              rw [← hE] at HR9 HPL HD8 ⊢
              clear hr9 hb9 hblk8 hE HR8
              go_wp2_with ((with_reducible refine wpAtC ?_); refine wpList_store_agg rfl _ _ _ rfl _ _ rfl (rcs A4 E.n c4 A3 E.loose.length c3 E.fails E.dead).toArray rfl aggRD hblk9 (Nat.le_refl 4) oneRD ?_; intro w10 hp10)
              refine cut_leaf HKC (by kernel_rfl) ?_
              have hbE := HBL.out
              exact ⟨E, A4, c4, A3, c3, _, rfl, rfl, ⟨(HD8.out.below HB9.out).put hblk9 hp10, HR9.out.put hblk9 hp10, hp10.blk, bx_put (bx_trans hbE HB9.out) hp10 hg8w, by rw [hp10.size]; exact Nat.le_trans hsz8 HB9.out.size, by rw [HPL.out.2.1]; exact HN7.out, by have := HPL.out.2.2; omega, HPL.out.1⟩⟩
          by_cases hf : x15 ≤ 11
          · rcases (show x15 = 10 ∨ x15 = 11 by omega) with rfl | rfl
            · skip
              have q1 : w6.cell? ⟨gA, 1, none⟩ = some (.int .i64 a.i) := HA6.out.cell 1
              have q2 : w6.cell? ⟨gA, 2, none⟩ = some (.int .i64 a.n) := HA6.out.cell 2
              have q3 : w6.cell? ⟨gA, 3, none⟩ = some (.slice a.Ab a.bytes.length a.cb) := HA6.out.cell 3
              go_wp2_with fail
              refine (Fail_any w6 HI6.out.disk a.n HAO.out.nm).mono ?_
              rintro e w8 ⟨rfl, hd8, hf8⟩
              have hfp := failD_play D a.n
              have HPL : Hid (LooseIn (failD D a.n) ∧ (failD D a.n).n = D.n ∧ (failD D a.n).loose.length ≤ D.loose.length) := hid ⟨HI6.out.inn, hfp.2.1, by rw [hfp.2.2.1]; exact Nat.le_refl _⟩
              have hr8 := HI6.out.ref.dfr hf8
              have hblk8 : Blk w8 g8 tRD (rcs A1 D.n c1 A2 D.loose.length c2 D.fails D.dead).toArray := hf8.keep g8 _ _ _ HI6.out.blk (by decide) (by decide)
              have hA8 : Blk w8 gA tAct a.cells.toArray := hf8.keep gA _ _ _ HA6.out (by decide) (by decide)
              have hfr := HI6.out.disk.okk.f2
              have HOK6 := hid HI6.out.disk.okk
              have HIN6 := hid HI6.out.inn
              have hbl8 := HI6.out.below.trans (hf8.below.mono (hwB))
              have hsz8 := Nat.le_trans HI6.out.size hf8.below.size
              have hn7 := HI6.out.n
              have hro7 := HI6.out.room
              have q2 : w8.cell? ⟨gA, 2, none⟩ = some (.int .i64 a.n) := hA8.cell 2
              have q3 : w8.cell? ⟨gA, 3, none⟩ = some (.slice a.Ab a.bytes.length a.cb) := hA8.cell 3
              have HR8 := hid hr8
              have HD8 := hid hd8
              have HBL := hid hbl8
              have HN7 := hid hn7
              have HFP := hid hfp
              clear HI6 HA6 hf8 hr8 hd8 hA8 hbl8 hn7 q0 hfp
              go_wp2_with fail
              refine wp_hold ?_
              go_wp2_with ((with_reducible refine wpAtC ?_); refine wpList_load_agg rfl _ _ rfl _ _ rfl (rcs A1 D.n c1 A2 D.loose.length c2 D.fails D.dead) aggRD (blk_cells hblk8) ?_)
              refine (rFail_any w8 A1 A2 D.n c1 D.loose.length c2 D.fails D.dead a.n).mono ?_
              rintro e w9 ⟨rfl, hb9⟩
              have hblk9 := hblk8.below hb9 hblk8.lt
              have HR9 : Hid (RefAt w9 (failD D a.n) A1 c1 A2 c2) := hid ((HR8.out.of HFP.out.2.1 HFP.out.2.2.2.2 HFP.out.2.2.1).below hb9)
              have HB9 := hid hb9
              obtain ⟨F, hF⟩ : ∃ F, F = rfailF a.n := ⟨_, rfl⟩
              obtain ⟨E, hE⟩ : ∃ E, E = failD D a.n := ⟨_, rfl⟩
              rw [← hE] at HR9 HPL HD8 HFP
              rw [← hF] at HFP ⊢
              clear hb9 hblk8 hE hF HR8
              go_wp2_with ((with_reducible refine wpAtC ?_); refine wpList_store_agg rfl _ _ _ rfl _ _ rfl (rcs A1 D.n c1 A2 D.loose.length c2 F D.dead).toArray rfl aggRD hblk9 (Nat.le_refl 4) oneRD ?_; intro w10 hp10)
              refine cut_leaf HKC (by kernel_rfl) ?_
              rw [← HFP.out.1, ← HFP.out.2.2.2.1, ← HFP.out.2.1, ← HFP.out.2.2.1] at hp10
              have hbE := HBL.out
              exact ⟨E, A1, c1, A2, c2, _, rfl, rfl, ⟨(HD8.out.below HB9.out).put hblk9 hp10, HR9.out.put hblk9 hp10, hp10.blk, bx_put (bx_trans hbE HB9.out) hp10 hg8w, by rw [hp10.size]; exact Nat.le_trans hsz8 HB9.out.size, by rw [HPL.out.2.1]; exact HN7.out, by have := HPL.out.2.2; omega, HPL.out.1⟩⟩
            · skip
              have q1 : w6.cell? ⟨gA, 1, none⟩ = some (.int .i64 a.i) := HA6.out.cell 1
              have q2 : w6.cell? ⟨gA, 2, none⟩ = some (.int .i64 a.n) := HA6.out.cell 2
              have q3 : w6.cell? ⟨gA, 3, none⟩ = some (.slice a.Ab a.bytes.length a.cb) := HA6.out.cell 3
              go_wp2_with fail
              refine (Fail_any w6 HI6.out.disk a.n HAO.out.nm).mono ?_
              rintro e w8 ⟨rfl, hd8, hf8⟩
              have hfp := failD_play D a.n
              have HPL : Hid (LooseIn (failD D a.n) ∧ (failD D a.n).n = D.n ∧ (failD D a.n).loose.length ≤ D.loose.length) := hid ⟨HI6.out.inn, hfp.2.1, by rw [hfp.2.2.1]; exact Nat.le_refl _⟩
              have hr8 := HI6.out.ref.dfr hf8
              have hblk8 : Blk w8 g8 tRD (rcs A1 D.n c1 A2 D.loose.length c2 D.fails D.dead).toArray := hf8.keep g8 _ _ _ HI6.out.blk (by decide) (by decide)
              have hA8 : Blk w8 gA tAct a.cells.toArray := hf8.keep gA _ _ _ HA6.out (by decide) (by decide)
              have hfr := HI6.out.disk.okk.f2
              have HOK6 := hid HI6.out.disk.okk
              have HIN6 := hid HI6.out.inn
              have hbl8 := HI6.out.below.trans (hf8.below.mono (hwB))
              have hsz8 := Nat.le_trans HI6.out.size hf8.below.size
              have hn7 := HI6.out.n
              have hro7 := HI6.out.room
              have q2 : w8.cell? ⟨gA, 2, none⟩ = some (.int .i64 a.n) := hA8.cell 2
              have q3 : w8.cell? ⟨gA, 3, none⟩ = some (.slice a.Ab a.bytes.length a.cb) := hA8.cell 3
              have HR8 := hid hr8
              have HD8 := hid hd8
              have HBL := hid hbl8
              have HN7 := hid hn7
              have HFP := hid hfp
              clear HI6 HA6 hf8 hr8 hd8 hA8 hbl8 hn7 q0 hfp
              go_wp2_with fail
              refine wp_hold ?_
              go_wp2_with ((with_reducible refine wpAtC ?_); refine wpList_load_agg rfl _ _ rfl _ _ rfl (rcs A1 D.n c1 A2 D.loose.length c2 D.fails D.dead) aggRD (blk_cells hblk8) ?_)
              refine (rFail_any w8 A1 A2 D.n c1 D.loose.length c2 D.fails D.dead a.n).mono ?_
              rintro e w9 ⟨rfl, hb9⟩
              have hblk9 := hblk8.below hb9 hblk8.lt
              have HR9 : Hid (RefAt w9 (failD D a.n) A1 c1 A2 c2) := hid ((HR8.out.of HFP.out.2.1 HFP.out.2.2.2.2 HFP.out.2.2.1).below hb9)
              have HB9 := hid hb9
              obtain ⟨F, hF⟩ : ∃ F, F = rfailF a.n := ⟨_, rfl⟩
              obtain ⟨E, hE⟩ : ∃ E, E = failD D a.n := ⟨_, rfl⟩
              rw [← hE] at HR9 HPL HD8 HFP
              rw [← hF] at HFP ⊢
              clear hb9 hblk8 hE hF HR8
              go_wp2_with ((with_reducible refine wpAtC ?_); refine wpList_store_agg rfl _ _ _ rfl _ _ rfl (rcs A1 D.n c1 A2 D.loose.length c2 F D.dead).toArray rfl aggRD hblk9 (Nat.le_refl 4) oneRD ?_; intro w10 hp10)
              refine cut_leaf HKC (by kernel_rfl) ?_
              rw [← HFP.out.1, ← HFP.out.2.2.2.1, ← HFP.out.2.1, ← HFP.out.2.2.1] at hp10
              have hbE := HBL.out
              exact ⟨E, A1, c1, A2, c2, _, rfl, rfl, ⟨(HD8.out.below HB9.out).put hblk9 hp10, HR9.out.put hblk9 hp10, hp10.blk, bx_put (bx_trans hbE HB9.out) hp10 hg8w, by rw [hp10.size]; exact Nat.le_trans hsz8 HB9.out.size, by rw [HPL.out.2.1]; exact HN7.out, by have := HPL.out.2.2; omega, HPL.out.1⟩⟩
          · rcases (show x15 = 12 ∨ x15 = 13 ∨ x15 = 14 ∨ x15 = 15 by omega) with rfl | rfl | rfl | rfl
            · skip
              have q1 : w6.cell? ⟨gA, 1, none⟩ = some (.int .i64 a.i) := HA6.out.cell 1
              have q2 : w6.cell? ⟨gA, 2, none⟩ = some (.int .i64 a.n) := HA6.out.cell 2
              have q3 : w6.cell? ⟨gA, 3, none⟩ = some (.slice a.Ab a.bytes.length a.cb) := HA6.out.cell 3
              go_wp2_with fail
              refine (Crash_any w6 HI6.out.disk (Kp.of_below (HAO.out.b.below HBW6.out) hwB) HBW6.out.size (by unfold maxLen; omega)).mono ?_
              rintro e w8 ⟨rfl, hd8, hf8⟩
              have HPL : Hid (LooseIn (crashD D a.bytes) ∧ (crashD D a.bytes).n = D.n ∧ (crashD D a.bytes).loose.length ≤ D.loose.length) := hid ⟨fun x hx => absurd (show x ∈ ([] : List (Int × List UInt8)) from hx) (by simp), rfl, Nat.zero_le _⟩
              have hr8 := HI6.out.ref.dfr hf8
              have hblk8 : Blk w8 g8 tRD (rcs A1 D.n c1 A2 D.loose.length c2 D.fails D.dead).toArray := hf8.keep g8 _ _ _ HI6.out.blk (by decide) (by decide)
              have hA8 : Blk w8 gA tAct a.cells.toArray := hf8.keep gA _ _ _ HA6.out (by decide) (by decide)
              have hfr := HI6.out.disk.okk.f2
              have HOK6 := hid HI6.out.disk.okk
              have HIN6 := hid HI6.out.inn
              have hbl8 := HI6.out.below.trans (hf8.below.mono (hwB))
              have hsz8 := Nat.le_trans HI6.out.size hf8.below.size
              have hn7 := HI6.out.n
              have hro7 := HI6.out.room
              have q2 : w8.cell? ⟨gA, 2, none⟩ = some (.int .i64 a.n) := hA8.cell 2
              have q3 : w8.cell? ⟨gA, 3, none⟩ = some (.slice a.Ab a.bytes.length a.cb) := hA8.cell 3
              have HR8 := hid hr8
              have HD8 := hid hd8
              have HBL := hid hbl8
              have HN7 := hid hn7
              have hcv := conv_str (P := Try.prog) (src := 22) (dst := 9) (w := w8) Try.underlying22 Try.underlying5 Try.underlying9 a.cb (HAO.out.b.below HBL.out)
              clear HI6 HA6 hf8 hr8 hd8 hA8 hbl8 hn7 q0
              go_wp2_with fail
              refine wp_hold ?_
              go_wp2_with ((with_reducible refine wpAtC ?_); refine wpList_load_agg rfl _ _ rfl _ _ rfl (rcs A1 D.n c1 A2 D.loose.length c2 D.fails D.dead) aggRD (blk_cells hblk8) ?_)
              refine (rCrash_any w8 HR8.out HOK6.out (by have := HN7.out; omega) (by omega) HIN6.out a.bytes (by omega)).mono ?_
              rintro e w9 ⟨A4, c4, rfl, hr9, hb9⟩
              have hblk9 := hblk8.below hb9 hblk8.lt
              have HR9 := hid hr9
              have HB9 := hid hb9
              have HFX : Hid ((crashD D a.bytes).n = D.n ∧ (crashD D a.bytes).loose = [] ∧ (crashD D a.bytes).fails = -1 ∧ (crashD D a.bytes).dead = false) := hid ⟨rfl, rfl, rfl, rfl⟩
              obtain ⟨E, hE⟩ : ∃ E, E = crashD D a.bytes := ⟨_, rfl⟩
              rw [← hE] at HR9 HPL HD8 HFX
              clear hr9 hb9 hblk8 hcv hE HR8
              go_wp2_with ((with_reducible refine wpAtC ?_); refine wpList_store_agg rfl _ _ _ rfl _ _ rfl (rcs A4 D.n c4 none 0 0 (-1) false).toArray rfl aggRD hblk9 (Nat.le_refl 4) oneRD ?_; intro w10 hp10)
              refine cut_leaf HKC (by kernel_rfl) ?_
              have hp11 : Put w9 w10 g8 tRD (rcs A4 E.n c4 none E.loose.length 0 E.fails E.dead).toArray := by rw [HFX.out.1, HFX.out.2.1, HFX.out.2.2.1, HFX.out.2.2.2]; exact hp10
              clear hp10
              have hp10 := hp11
              have hbE := HBL.out
              exact ⟨E, A4, c4, none, 0, _, rfl, rfl, ⟨(HD8.out.below HB9.out).put hblk9 hp10, HR9.out.put hblk9 hp10, hp10.blk, bx_put (bx_trans hbE HB9.out) hp10 hg8w, by rw [hp10.size]; exact Nat.le_trans hsz8 HB9.out.size, by rw [HPL.out.2.1]; exact HN7.out, by have := HPL.out.2.2; omega, HPL.out.1⟩⟩
            · skip
              have q1 : w6.cell? ⟨gA, 1, none⟩ = some (.int .i64 a.i) := HA6.out.cell 1
              have q2 : w6.cell? ⟨gA, 2, none⟩ = some (.int .i64 a.n) := HA6.out.cell 2
              have q3 : w6.cell? ⟨gA, 3, none⟩ = some (.slice a.Ab a.bytes.length a.cb) := HA6.out.cell 3
              go_wp2_with fail
              refine (Crash_any w6 HI6.out.disk (Kp.of_below (HAO.out.b.below HBW6.out) hwB) HBW6.out.size (by unfold maxLen; omega)).mono ?_
              rintro e w8 ⟨rfl, hd8, hf8⟩
              have HPL : Hid (LooseIn (crashD D a.bytes) ∧ (crashD D a.bytes).n = D.n ∧ (crashD D a.bytes).loose.length ≤ D.loose.length) := hid ⟨fun x hx => absurd (show x ∈ ([] : List (Int × List UInt8)) from hx) (by simp), rfl, Nat.zero_le _⟩
              have hr8 := HI6.out.ref.dfr hf8
              have hblk8 : Blk w8 g8 tRD (rcs A1 D.n c1 A2 D.loose.length c2 D.fails D.dead).toArray := hf8.keep g8 _ _ _ HI6.out.blk (by decide) (by decide)
              have hA8 : Blk w8 gA tAct a.cells.toArray := hf8.keep gA _ _ _ HA6.out (by decide) (by decide)
              have hfr := HI6.out.disk.okk.f2
              have HOK6 := hid HI6.out.disk.okk
              have HIN6 := hid HI6.out.inn
              have hbl8 := HI6.out.below.trans (hf8.below.mono (hwB))
              have hsz8 := Nat.le_trans HI6.out.size hf8.below.size
              have hn7 := HI6.out.n
              have hro7 := HI6.out.room
              have q2 : w8.cell? ⟨gA, 2, none⟩ = some (.int .i64 a.n) := hA8.cell 2
              have q3 : w8.cell? ⟨gA, 3, none⟩ = some (.slice a.Ab a.bytes.length a.cb) := hA8.cell 3
              have HR8 := hid hr8
              have HD8 := hid hd8
              have HBL := hid hbl8
              have HN7 := hid hn7
              have hcv := conv_str (P := Try.prog) (src := 22) (dst := 9) (w := w8) Try.underlying22 Try.underlying5 Try.underlying9 a.cb (HAO.out.b.below HBL.out)
              clear HI6 HA6 hf8 hr8 hd8 hA8 hbl8 hn7 q0
              go_wp2_with fail
              refine wp_hold ?_
              go_wp2_with ((with_reducible refine wpAtC ?_); refine wpList_load_agg rfl _ _ rfl _ _ rfl (rcs A1 D.n c1 A2 D.loose.length c2 D.fails D.dead) aggRD (blk_cells hblk8) ?_)
              refine (rCrash_any w8 HR8.out HOK6.out (by have := HN7.out; omega) (by omega) HIN6.out a.bytes (by omega)).mono ?_
              rintro e w9 ⟨A4, c4, rfl, hr9, hb9⟩
              have hblk9 := hblk8.below hb9 hblk8.lt
              have HR9 := hid hr9
              have HB9 := hid hb9
              have HFX : Hid ((crashD D a.bytes).n = D.n ∧ (crashD D a.bytes).loose = [] ∧ (crashD D a.bytes).fails = -1 ∧ (crashD D a.bytes).dead = false) := hid ⟨rfl, rfl, rfl, rfl⟩
              obtain ⟨E, hE⟩ : ∃ E, E = crashD D a.bytes := ⟨_, rfl⟩
              rw [← hE] at HR9 HPL HD8 HFX
              clear hr9 hb9 hblk8 hcv hE HR8
              go_wp2_with ((with_reducible refine wpAtC ?_); refine wpList_store_agg rfl _ _ _ rfl _ _ rfl (rcs A4 D.n c4 none 0 0 (-1) false).toArray rfl aggRD hblk9 (Nat.le_refl 4) oneRD ?_; intro w10 hp10)
              refine cut_leaf HKC (by kernel_rfl) ?_
              have hp11 : Put w9 w10 g8 tRD (rcs A4 E.n c4 none E.loose.length 0 E.fails E.dead).toArray := by rw [HFX.out.1, HFX.out.2.1, HFX.out.2.2.1, HFX.out.2.2.2]; exact hp10
              clear hp10
              have hp10 := hp11
              have hbE := HBL.out
              exact ⟨E, A4, c4, none, 0, _, rfl, rfl, ⟨(HD8.out.below HB9.out).put hblk9 hp10, HR9.out.put hblk9 hp10, hp10.blk, bx_put (bx_trans hbE HB9.out) hp10 hg8w, by rw [hp10.size]; exact Nat.le_trans hsz8 HB9.out.size, by rw [HPL.out.2.1]; exact HN7.out, by have := HPL.out.2.2; omega, HPL.out.1⟩⟩
            · skip
              have q1 : w6.cell? ⟨gA, 1, none⟩ = some (.int .i64 a.i) := HA6.out.cell 1
              have q2 : w6.cell? ⟨gA, 2, none⟩ = some (.int .i64 a.n) := HA6.out.cell 2
              have q3 : w6.cell? ⟨gA, 3, none⟩ = some (.slice a.Ab a.bytes.length a.cb) := HA6.out.cell 3
              go_wp2_with fail
              refine (Crash_any w6 HI6.out.disk (Kp.of_below (HAO.out.b.below HBW6.out) hwB) HBW6.out.size (by unfold maxLen; omega)).mono ?_
              rintro e w8 ⟨rfl, hd8, hf8⟩
              have HPL : Hid (LooseIn (crashD D a.bytes) ∧ (crashD D a.bytes).n = D.n ∧ (crashD D a.bytes).loose.length ≤ D.loose.length) := hid ⟨fun x hx => absurd (show x ∈ ([] : List (Int × List UInt8)) from hx) (by simp), rfl, Nat.zero_le _⟩
              have hr8 := HI6.out.ref.dfr hf8
              have hblk8 : Blk w8 g8 tRD (rcs A1 D.n c1 A2 D.loose.length c2 D.fails D.dead).toArray := hf8.keep g8 _ _ _ HI6.out.blk (by decide) (by decide)
              have hA8 : Blk w8 gA tAct a.cells.toArray := hf8.keep gA _ _ _ HA6.out (by decide) (by decide)
              have hfr := HI6.out.disk.okk.f2
              have HOK6 := hid HI6.out.disk.okk
              have HIN6 := hid HI6.out.inn
              have hbl8 := HI6.out.below.trans (hf8.below.mono (hwB))
              have hsz8 := Nat.le_trans HI6.out.size hf8.below.size
              have hn7 := HI6.out.n
              have hro7 := HI6.out.room
              have q2 : w8.cell? ⟨gA, 2, none⟩ = some (.int .i64 a.n) := hA8.cell 2
              have q3 : w8.cell? ⟨gA, 3, none⟩ = some (.slice a.Ab a.bytes.length a.cb) := hA8.cell 3
              have HR8 := hid hr8
              have HD8 := hid hd8
              have HBL := hid hbl8
              have HN7 := hid hn7
              have hcv := conv_str (P := Try.prog) (src := 22) (dst := 9) (w := w8) Try.underlying22 Try.underlying5 Try.underlying9 a.cb (HAO.out.b.below HBL.out)
              clear HI6 HA6 hf8 hr8 hd8 hA8 hbl8 hn7 q0
              go_wp2_with fail
              refine wp_hold ?_
              go_wp2_with ((with_reducible refine wpAtC ?_); refine wpList_load_agg rfl _ _ rfl _ _ rfl (rcs A1 D.n c1 A2 D.loose.length c2 D.fails D.dead) aggRD (blk_cells hblk8) ?_)
              refine (rCrash_any w8 HR8.out HOK6.out (by have := HN7.out; omega) (by omega) HIN6.out a.bytes (by omega)).mono ?_
              rintro e w9 ⟨A4, c4, rfl, hr9, hb9⟩
              have hblk9 := hblk8.below hb9 hblk8.lt
              have HR9 := hid hr9
              have HB9 := hid hb9
              have HFX : Hid ((crashD D a.bytes).n = D.n ∧ (crashD D a.bytes).loose = [] ∧ (crashD D a.bytes).fails = -1 ∧ (crashD D a.bytes).dead = false) := hid ⟨rfl, rfl, rfl, rfl⟩
              obtain ⟨E, hE⟩ : ∃ E, E = crashD D a.bytes := ⟨_, rfl⟩
              rw [← hE] at HR9 HPL HD8 HFX
              clear hr9 hb9 hblk8 hcv hE HR8
              go_wp2_with ((with_reducible refine wpAtC ?_); refine wpList_store_agg rfl _ _ _ rfl _ _ rfl (rcs A4 D.n c4 none 0 0 (-1) false).toArray rfl aggRD hblk9 (Nat.le_refl 4) oneRD ?_; intro w10 hp10)
              refine cut_leaf HKC (by kernel_rfl) ?_
              have hp11 : Put w9 w10 g8 tRD (rcs A4 E.n c4 none E.loose.length 0 E.fails E.dead).toArray := by rw [HFX.out.1, HFX.out.2.1, HFX.out.2.2.1, HFX.out.2.2.2]; exact hp10
              clear hp10
              have hp10 := hp11
              have hbE := HBL.out
              exact ⟨E, A4, c4, none, 0, _, rfl, rfl, ⟨(HD8.out.below HB9.out).put hblk9 hp10, HR9.out.put hblk9 hp10, hp10.blk, bx_put (bx_trans hbE HB9.out) hp10 hg8w, by rw [hp10.size]; exact Nat.le_trans hsz8 HB9.out.size, by rw [HPL.out.2.1]; exact HN7.out, by have := HPL.out.2.2; omega, HPL.out.1⟩⟩
            · skip
              have q1 : w6.cell? ⟨gA, 1, none⟩ = some (.int .i64 a.i) := HA6.out.cell 1
              have q2 : w6.cell? ⟨gA, 2, none⟩ = some (.int .i64 a.n) := HA6.out.cell 2
              have q3 : w6.cell? ⟨gA, 3, none⟩ = some (.slice a.Ab a.bytes.length a.cb) := HA6.out.cell 3
              go_wp2_with fail
              refine (Crash_any w6 HI6.out.disk (Kp.of_below (HAO.out.b.below HBW6.out) hwB) HBW6.out.size (by unfold maxLen; omega)).mono ?_
              rintro e w8 ⟨rfl, hd8, hf8⟩
              have HPL : Hid (LooseIn (crashD D a.bytes) ∧ (crashD D a.bytes).n = D.n ∧ (crashD D a.bytes).loose.length ≤ D.loose.length) := hid ⟨fun x hx => absurd (show x ∈ ([] : List (Int × List UInt8)) from hx) (by simp), rfl, Nat.zero_le _⟩
              have hr8 := HI6.out.ref.dfr hf8
              have hblk8 : Blk w8 g8 tRD (rcs A1 D.n c1 A2 D.loose.length c2 D.fails D.dead).toArray := hf8.keep g8 _ _ _ HI6.out.blk (by decide) (by decide)
              have hA8 : Blk w8 gA tAct a.cells.toArray := hf8.keep gA _ _ _ HA6.out (by decide) (by decide)
              have hfr := HI6.out.disk.okk.f2
              have HOK6 := hid HI6.out.disk.okk
              have HIN6 := hid HI6.out.inn
              have hbl8 := HI6.out.below.trans (hf8.below.mono (hwB))
              have hsz8 := Nat.le_trans HI6.out.size hf8.below.size
              have hn7 := HI6.out.n
              have hro7 := HI6.out.room
              have q2 : w8.cell? ⟨gA, 2, none⟩ = some (.int .i64 a.n) := hA8.cell 2
              have q3 : w8.cell? ⟨gA, 3, none⟩ = some (.slice a.Ab a.bytes.length a.cb) := hA8.cell 3
              have HR8 := hid hr8
              have HD8 := hid hd8
              have HBL := hid hbl8
              have HN7 := hid hn7
              have hcv := conv_str (P := Try.prog) (src := 22) (dst := 9) (w := w8) Try.underlying22 Try.underlying5 Try.underlying9 a.cb (HAO.out.b.below HBL.out)
              clear HI6 HA6 hf8 hr8 hd8 hA8 hbl8 hn7 q0
              go_wp2_with fail
              refine wp_hold ?_
              go_wp2_with ((with_reducible refine wpAtC ?_); refine wpList_load_agg rfl _ _ rfl _ _ rfl (rcs A1 D.n c1 A2 D.loose.length c2 D.fails D.dead) aggRD (blk_cells hblk8) ?_)
              refine (rCrash_any w8 HR8.out HOK6.out (by have := HN7.out; omega) (by omega) HIN6.out a.bytes (by omega)).mono ?_
              rintro e w9 ⟨A4, c4, rfl, hr9, hb9⟩
              have hblk9 := hblk8.below hb9 hblk8.lt
              have HR9 := hid hr9
              have HB9 := hid hb9
              have HFX : Hid ((crashD D a.bytes).n = D.n ∧ (crashD D a.bytes).loose = [] ∧ (crashD D a.bytes).fails = -1 ∧ (crashD D a.bytes).dead = false) := hid ⟨rfl, rfl, rfl, rfl⟩
              obtain ⟨E, hE⟩ : ∃ E, E = crashD D a.bytes := ⟨_, rfl⟩
              rw [← hE] at HR9 HPL HD8 HFX
              clear hr9 hb9 hblk8 hcv hE HR8
              go_wp2_with ((with_reducible refine wpAtC ?_); refine wpList_store_agg rfl _ _ _ rfl _ _ rfl (rcs A4 D.n c4 none 0 0 (-1) false).toArray rfl aggRD hblk9 (Nat.le_refl 4) oneRD ?_; intro w10 hp10)
              refine cut_leaf HKC (by kernel_rfl) ?_
              have hp11 : Put w9 w10 g8 tRD (rcs A4 E.n c4 none E.loose.length 0 E.fails E.dead).toArray := by rw [HFX.out.1, HFX.out.2.1, HFX.out.2.2.1, HFX.out.2.2.2]; exact hp10
              clear hp10
              have hp10 := hp11
              have hbE := HBL.out
              exact ⟨E, A4, c4, none, 0, _, rfl, rfl, ⟨(HD8.out.below HB9.out).put hblk9 hp10, HR9.out.put hblk9 hp10, hp10.blk, bx_put (bx_trans hbE HB9.out) hp10 hg8w, by rw [hp10.size]; exact Nat.le_trans hsz8 HB9.out.size, by rw [HPL.out.2.1]; exact HN7.out, by have := HPL.out.2.2; omega, HPL.out.1⟩⟩
        case behind =>
          intro f wb hrel
          obtain ⟨D', A', c', A2', c2', e, h7, h9, hI⟩ := hrel
          simp only [mix, h7, h9]
          clear h7 h9
          have HI := hid hI
          clear hI HI6 HA6 HBW6 q0
          go_wp2_with fail
          refine wp_hold (wp_region_lit ?_)
          refine wp_flowSE [0, 1, 3, 7, 15, 31, 63, 127, 255] 9 [false, false, false, false, false, false, false, false, false, false, false, false, false, false, false, false, false, false, false, false, false, false, false, false, false, false, false, false, false, false, false, false, false, false, false, false, false, false, false, false, false, false, false, false, false, false, false, false, false, false, false, false, false, false, false, false, false, false, false, false, false, false, false, false, false, false, false, false, false, false, false, false, false, false, false, false, false, false, false, false, false, false, false, false, false, false, false, false, false, false, false, false, false, false, false, false, false, false, false, false, false, false, false, false, false, false, false, false, false, false, false, false, false, false, false, false, false, false, false, false, false, false, false, false, false, true, true, true, true, true, true, true, true, true] (by kernel_rfl) (by kernel_rfl) (by kernel_rfl) [FP.eq (.int .i64 e), FP.eq (.int .i64 e), FP.eq (.bool false), FP.eq (.bool false), FP.eq (.pointer (some ⟨g, 0, none⟩)), FP.eq (.agg (rcs A' D'.n c' A2' D'.loose.length c2' D'.fails D'.dead).toArray), FP.eq (.bool true), FP.eq (.bool false), FP.eq (.bool false)] ?_ ?_
          · refine allFrom_cons ?_ ?_
            · intro a_ w_ hk_
              have h7 : a_.eval (.tmp 7) = .int .i64 e := hk_.old 7 (by kernel_rfl)
              have hx_ := hk_.ext
              clear hk_
              refine flow_plain rfl ?_
              exact gives_move rfl ⟨Below.refl _ _, h7⟩
            refine allFrom_cons ?_ ?_
            · intro a_ w_ hk_
              have h9 : a_.eval (.tmp 9) = .int .i64 e := hk_.old 9 (by kernel_rfl)
              have hx_ := hk_.ext
              clear hk_
              refine flow_plain rfl ?_
              exact gives_move rfl ⟨Below.refl _ _, h9⟩
            refine allFrom_cons ?_ ?_
            · intro a_ w_ hk_
              have h125 : a_.eval (.tmp 125) = (.int .i64 e) := hk_.got 0 125 _ (by kernel_rfl) rfl rfl
              have h126 : a_.eval (.tmp 126) = (.int .i64 e) := hk_.got 1 126 _ (by kernel_rfl) rfl rfl
              have hx_ := hk_.ext
              clear hk_
              refine flow_plain rfl ?_
              unfold gives
              have hc_ : ∀ v, a_.eval (.const v) = v := fun _ => rfl
              have hn_ : ∀ f, a_.eval (.func f) = .func (.func f) #[] #[] := fun _ => rfl
              generalize a_.eval = ρ_ at *
              go_simp
              exact ⟨Below.refl _ _, rfl⟩
            refine allFrom_cons ?_ ?_
            · intro a_ w_ hk_
              have h127 : a_.eval (.tmp 127) = (.bool false) := hk_.got 2 127 _ (by kernel_rfl) rfl rfl
              have hx_ := hk_.ext
              clear hk_
              refine flow_plain rfl ?_
              exact gives_move rfl ⟨Below.refl _ _, h127⟩
            refine allFrom_cons ?_ ?_
            · intro a_ w_ hk_
              have h6 : a_.eval (.tmp 6) = .pointer (some ⟨g, 0, none⟩) := hk_.old 6 (by kernel_rfl)
              have hg_ : a_.eval (.tmp 128) = .bool false := hk_.got 3 128 _ (by kernel_rfl) rfl rfl
              have hy_ := hk_.want 3 _ 128 false rfl rfl hg_
              have hx_ := hk_.ext
              clear hk_
              refine flow_want rfl hy_ ?_
              exact gives_move rfl ⟨Below.refl _ _, h6⟩
            refine allFrom_cons ?_ ?_
            · intro a_ w_ hk_
              have h8 : a_.eval (.tmp 8) = .pointer (some ⟨g8, 0, none⟩) := hk_.old 8 (by kernel_rfl)
              have hg_ : a_.eval (.tmp 128) = .bool false := hk_.got 3 128 _ (by kernel_rfl) rfl rfl
              have hy_ := hk_.want 3 _ 128 false rfl rfl hg_
              have hx_ := hk_.ext
              clear hk_
              refine flow_want rfl hy_ ?_
              exact gives_load_agg (x := .tmp 8) rfl h8 (cs := rcs A' D'.n c' A2' D'.loose.length c2' D'.fails D'.dead) aggRD (blk_cells (HI.out.blk.below hx_ HI.out.blk.lt)) ⟨Below.refl _ _, rfl⟩
            refine allFrom_cons ?_ ?_
            · intro a_ w_ hk_
              have h129 : a_.eval (.tmp 129) = (.pointer (some ⟨g, 0, none⟩)) := hk_.got 4 129 _ (by kernel_rfl) rfl rfl
              have h130 : a_.eval (.tmp 130) = (.agg (rcs A' D'.n c' A2' D'.loose.length c2' D'.fails D'.dead).toArray) := hk_.got 5 130 _ (by kernel_rfl) rfl rfl
              have hg_ : a_.eval (.tmp 128) = .bool false := hk_.got 3 128 _ (by kernel_rfl) rfl rfl
              have hy_ := hk_.want 3 _ 128 false rfl rfl hg_
              have hx_ := hk_.ext
              clear hk_
              refine flow_want rfl hy_ ?_
              unfold gives
              have hc_ : ∀ v, a_.eval (.const v) = v := fun _ => rfl
              have hn_ : ∀ f, a_.eval (.func f) = .func (.func f) #[] #[] := fun _ => rfl
              clear hy_ hg_
              generalize a_.eval = ρ_ at *
              go_simp
              exact (alike_any w_ (HI.out.disk.below hx_) (Nat.le_trans HI.out.size hx_.size) (HI.out.ref.below hx_) (by have := HI.out.n; omega) (by have := HI.out.room; omega)).mono fun e w' ⟨h1, h2⟩ => ⟨_, h1, h2, rfl⟩
            refine allFrom_cons ?_ ?_
            · intro a_ w_ hk_
              have h131 : a_.eval (.tmp 131) = (.bool true) := hk_.got 6 131 _ (by kernel_rfl) rfl rfl
              have hg_ : a_.eval (.tmp 128) = .bool false := hk_.got 3 128 _ (by kernel_rfl) rfl rfl
              have hy_ := hk_.want 3 _ 128 false rfl rfl hg_
              have hx_ := hk_.ext
              clear hk_
              refine flow_want rfl hy_ ?_
              unfold gives
              have hc_ : ∀ v, a_.eval (.const v) = v := fun _ => rfl
              have hn_ : ∀ f, a_.eval (.func f) = .func (.func f) #[] #[] := fun _ => rfl
              clear hy_ hg_
              generalize a_.eval = ρ_ at *
              go_simp
              exact ⟨Below.refl _ _, rfl⟩
            refine allFrom_cons ?_ ?_
            · intro a_ w_ hk_
              have h128 : a_.eval (.tmp 128) = (.bool false) := hk_.got 3 128 _ (by kernel_rfl) rfl rfl
              have h132 : a_.eval (.tmp 132) = (.bool false) := hk_.got 7 132 _ (by kernel_rfl) rfl rfl
              have hx_ := hk_.ext
              clear hk_
              refine flow_plain rfl ?_
              exact gives_pick rfl h128 ⟨Below.refl _ _, h132⟩
            exact allFrom_nil
          intro f_ w_ hx_ hf_
          have h125 : f_ 125 = (.int .i64 e) := hf_ 0 125 _ (by decide) rfl rfl
          have h126 : f_ 126 = (.int .i64 e) := hf_ 1 126 _ (by decide) rfl rfl
          have h127 : f_ 127 = (.bool false) := hf_ 2 127 _ (by decide) rfl rfl
          have h128 : f_ 128 = (.bool false) := hf_ 3 128 _ (by decide) rfl rfl
          have h129 : f_ 129 = (.pointer (some ⟨g, 0, none⟩)) := hf_ 4 129 _ (by decide) rfl rfl
          have h130 : f_ 130 = (.agg (rcs A' D'.n c' A2' D'.loose.length c2' D'.fails D'.dead).toArray) := hf_ 5 130 _ (by decide) rfl rfl
          have h131 : f_ 131 = (.bool true) := hf_ 6 131 _ (by decide) rfl rfl
          have h132 : f_ 132 = (.bool false) := hf_ 7 132 _ (by decide) rfl rfl
          have h133 : f_ 133 = (.bool false) := hf_ 8 133 _ (by decide) rfl rfl
          simp only [mix, h125, h126, h127, h128, h129, h130, h131, h132, h133]
          clear h125 h126 h127 h128 h129 h130 h131 h132 h133
          clear hf_
          have HI2 := hid (HI.out.below' hx_)
          clear HI hx_
          go_wp2_with fail
          refine ⟨⟨k + 1, D', A', c', A2', c2', by omega, by omega, rfl, HI2.out⟩, ?_⟩
          show acts.length - ((k : Int) + 1).toNat < acts.length - ((k : Int)).toNat
          omega
      · have hl30i : ¬ (k : Int) < 30 := by omega
        go_wp2_with fail
        refine wp_hold (wp_region_lit ?_)
        refine wp_flowSE [0, 1, 3, 7, 15, 31, 63, 127, 255, 511, 1023, 2047] 12 [false, false, false, false, false, false, false, false, false, false, false, false, false, false, false, false, false, false, false, false, false, false, false, false, false, false, false, false, false, false, false, false, false, false, false, false, false, false, false, false, false, true, true, true, true, true, true, true, true, true, true, true, true] (by kernel_rfl) (by kernel_rfl) (by kernel_rfl) [FP.eq (.int .i64 (k : Int)), FP.eq (.slice As acts.length cs), FP.eq (.int .i64 (acts.length : Int)), FP.eq (.bool true), FP.eq (.bool true), FP.eq (.int .i64 (k : Int)), FP.eq (.bool false), FP.eq (.bool false), FP.eq (.bool false), FP.any, FP.any, FP.eq (.bool false)] ?_ ?_
        · refine allFrom_cons ?_ ?_
          · intro a_ w_ hk_
            have h10 : a_.eval (.tmp 10) = .int .i64 (k : Int) := hk_.old 10 (by kernel_rfl)
            have hx_ := hk_.ext
            clear hk_
            refine flow_plain rfl ?_
            exact gives_move rfl ⟨Below.refl _ _, h10⟩
          refine allFrom_cons ?_ ?_
          · intro a_ w_ hk_
            have h1 : a_.eval (.tmp 1) = .slice As acts.length cs := hk_.old 1 (by kernel_rfl)
            have hx_ := hk_.ext
            clear hk_
            refine flow_plain rfl ?_
            exact gives_move rfl ⟨Below.refl _ _, h1⟩
          refine allFrom_cons ?_ ?_
          · intro a_ w_ hk_
            have h42 : a_.eval (.tmp 42) = (.slice As acts.length cs) := hk_.got 1 42 _ (by kernel_rfl) rfl rfl
            have hx_ := hk_.ext
            clear hk_
            refine flow_plain rfl ?_
            unfold gives
            have hc_ : ∀ v, a_.eval (.const v) = v := fun _ => rfl
            have hn_ : ∀ f, a_.eval (.func f) = .func (.func f) #[] #[] := fun _ => rfl
            generalize a_.eval = ρ_ at *
            go_simp
            exact ⟨Below.refl _ _, rfl⟩
          refine allFrom_cons ?_ ?_
          · intro a_ w_ hk_
            have h41 : a_.eval (.tmp 41) = (.int .i64 (k : Int)) := hk_.got 0 41 _ (by kernel_rfl) rfl rfl
            have h43 : a_.eval (.tmp 43) = (.int .i64 (acts.length : Int)) := hk_.got 2 43 _ (by kernel_rfl) rfl rfl
            have hx_ := hk_.ext
            clear hk_
            refine flow_plain rfl ?_
            unfold gives
            have hc_ : ∀ v, a_.eval (.const v) = v := fun _ => rfl
            have hn_ : ∀ f, a_.eval (.func f) = .func (.func f) #[] #[] := fun _ => rfl
            generalize a_.eval = ρ_ at *
            go_simp
            exact ⟨Below.refl _ _, rfl⟩
          refine allFrom_cons ?_ ?_
          · intro a_ w_ hk_
            have h44 : a_.eval (.tmp 44) = (.bool true) := hk_.got 3 44 _ (by kernel_rfl) rfl rfl
            have hx_ := hk_.ext
            clear hk_
            refine flow_plain rfl ?_
            exact gives_move rfl ⟨Below.refl _ _, h44⟩
          refine allFrom_cons ?_ ?_
          · intro a_ w_ hk_
            have h10 : a_.eval (.tmp 10) = .int .i64 (k : Int) := hk_.old 10 (by kernel_rfl)
            have hg_ : a_.eval (.tmp 45) = .bool true := hk_.got 4 45 _ (by kernel_rfl) rfl rfl
            have hy_ := hk_.want 4 _ 45 true rfl rfl hg_
            have hx_ := hk_.ext
            clear hk_
            refine flow_want rfl hy_ ?_
            exact gives_move rfl ⟨Below.refl _ _, h10⟩
          refine allFrom_cons ?_ ?_
          · intro a_ w_ hk_
            have h46 : a_.eval (.tmp 46) = (.int .i64 (k : Int)) := hk_.got 5 46 _ (by kernel_rfl) rfl rfl
            have hg_ : a_.eval (.tmp 45) = .bool true := hk_.got 4 45 _ (by kernel_rfl) rfl rfl
            have hy_ := hk_.want 4 _ 45 true rfl rfl hg_
            have hx_ := hk_.ext
            clear hk_
            refine flow_want rfl hy_ ?_
            unfold gives
            have hc_ : ∀ v, a_.eval (.const v) = v := fun _ => rfl
            have hn_ : ∀ f, a_.eval (.func f) = .func (.func f) #[] #[] := fun _ => rfl
            clear hy_ hg_
            generalize a_.eval = ρ_ at *
            go_simp
            exact ⟨Below.refl _ _, congrArg Value.bool (decide_eq_false (by omega))⟩
          refine allFrom_cons ?_ ?_
          · intro a_ w_ hk_
            have h45 : a_.eval (.tmp 45) = (.bool true) := hk_.got 4 45 _ (by kernel_rfl) rfl rfl
            have h47 : a_.eval (.tmp 47) = (.bool false) := hk_.got 6 47 _ (by kernel_rfl) rfl rfl
            have hx_ := hk_.ext
            clear hk_
            refine flow_plain rfl ?_
            exact gives_pick rfl h45 ⟨Below.refl _ _, h47⟩
          refine allFrom_cons ?_ ?_
          · intro a_ w_ hk_
            have h48 : a_.eval (.tmp 48) = (.bool false) := hk_.got 7 48 _ (by kernel_rfl) rfl rfl
            have hx_ := hk_.ext
            clear hk_
            refine flow_plain rfl ?_
            exact gives_move rfl ⟨Below.refl _ _, h48⟩
          refine allFrom_cons ?_ ?_
          · intro a_ w_ hk_
            have h6 : a_.eval (.tmp 6) = .pointer (some ⟨g, 0, none⟩) := hk_.old 6 (by kernel_rfl)
            have hg_ : a_.eval (.tmp 49) = .bool false := hk_.got 8 49 _ (by kernel_rfl) rfl rfl
            have hy_ := hk_.want 8 _ 49 false rfl rfl hg_
            have hx_ := hk_.ext
            clear hk_
            exact flow_skip rfl hy_ (by decide) trivial
          refine allFrom_cons ?_ ?_
          · intro a_ w_ hk_
            have hg_ : a_.eval (.tmp 49) = .bool false := hk_.got 8 49 _ (by kernel_rfl) rfl rfl
            have hy_ := hk_.want 8 _ 49 false rfl rfl hg_
            have hx_ := hk_.ext
            clear hk_
            exact flow_skip rfl hy_ (by decide) trivial
          refine allFrom_cons ?_ ?_
          · intro a_ w_ hk_
            have h49 : a_.eval (.tmp 49) = (.bool false) := hk_.got 8 49 _ (by kernel_rfl) rfl rfl
            have hx_ := hk_.ext
            clear hk_
            refine flow_plain rfl ?_
            exact gives_pick rfl h49 ⟨Below.refl _ _, rfl⟩
          exact allFrom_nil
        intro f_ w_ hx_ hf_
        have h41 : f_ 41 = (.int .i64 (k : Int)) := hf_ 0 41 _ (by decide) rfl rfl
        have h42 : f_ 42 = (.slice As acts.length cs) := hf_ 1 42 _ (by decide) rfl rfl
        have h43 : f_ 43 = (.int .i64 (acts.length : Int)) := hf_ 2 43 _ (by decide) rfl rfl
        have h44 : f_ 44 = (.bool true) := hf_ 3 44 _ (by decide) rfl rfl
        have h45 : f_ 45 = (.bool true) := hf_ 4 45 _ (by decide) rfl rfl
        have h46 : f_ 46 = (.int .i64 (k : Int)) := hf_ 5 46 _ (by decide) rfl rfl
        have h47 : f_ 47 = (.bool false) := hf_ 6 47 _ (by decide) rfl rfl
        have h48 : f_ 48 = (.bool false) := hf_ 7 48 _ (by decide) rfl rfl
        have h49 : f_ 49 = (.bool false) := hf_ 8 49 _ (by decide) rfl rfl
        have h52 : f_ 52 = (.bool false) := hf_ 11 52 _ (by decide) rfl rfl
        simp only [mix, h41, h42, h43, h44, h45, h46, h47, h48, h49, h52]
        clear h41 h42 h43 h44 h45 h46 h47 h48 h49 h52
        clear hf_
        have HBT := hid (bx_trans HI.out.below hx_)
        clear hx_ HI
        go_wp2_with fail
        refine (Fail_nil _ 1).mono ?_
        rintro e wt1 ⟨rfl, rfl⟩
        go_wp2_with fail
        refine (Crash_nil _ (.slice none 0 0)).mono ?_
        rintro e wt2 ⟨rfl, rfl⟩
        go_wp2_with fail
        refine (Read_nil _ 0).mono ?_
        rintro e wt3 ⟨vt, rfl, hvt, hbt⟩
        go_wp2_with fail
        refine wp_hold (wp_region_lit ?_)
        refine wp_flowSE [0, 1, 3, 7, 15, 31, 63, 127, 255, 511, 1023, 2047, 4095, 8191, 16383, 32767, 65535, 131071, 262143, 524287, 1048575, 2097151, 4194303, 8388607, 16777215, 33554431] 26 [false, false, false, false, true, false, false, false, false, false, false, false, false, false, false, false, false, false, false, false, false, false, false, false, false, false, false, false, false, false, false, false, false, false, false, false, false, false, false, false, false, false, false, false, false, false, false, false, false, false, false, false, false, false, false, false, false, false, false, false, false, false, false, false, false, false, false, false, false, false, false, false, false, false, false, false, false, false, false, false, false, false, false, false, false, false, false, false, false, false, false, false, false, false, false, false, false, false, false, false, false, false, false, false, false, false, false, false, false, false, false, false, false, false, false, false, false, false, false, false, false, false, false, false, false, false, false, false, false, false, false, false, false, false, false, false, false, false, false, false, false, false, false, true, true, true, true, true, true, true, true, true, true, true, true, true, true, true, true, true, true, true, true, true, true, true, true, true] (by kernel_rfl) (by kernel_rfl) (by kernel_rfl) [FP.eq (.int .i64 1), FP.eq (.bool true), FP.eq (.bool true), FP.eq (.pointer none), FP.eq (.int .i64 1), FP.eq (.bool true), FP.eq (.bool true), FP.eq (.bool true), FP.eq (.pointer none), FP.eq (.int .i64 1), FP.eq (.bool true), FP.eq (.bool true), FP.eq (.bool true), FP.eq (.pointer none), FP.eq (.int .i64 0), FP.eq (.pointer none), FP.eq (.int .i64 0), FP.eq (.int .i64 0), FP.eq (.bool true), FP.eq (.bool true), FP.eq (.bool true), FP.eq (.pointer none), FP.eq (.bool false), FP.eq (.bool true), FP.eq (.bool true), FP.eq (.bool true)] ?_ ?_
        · refine allFrom_cons ?_ ?_
          · intro a_ w_ hk_
            have h15 : a_.eval (.tmp 15) = .int .i64 1 := hk_.old 15 (by kernel_rfl)
            have hx_ := hk_.ext
            clear hk_
            refine flow_plain rfl ?_
            exact gives_move rfl ⟨Below.refl _ _, h15⟩
          refine allFrom_cons ?_ ?_
          · intro a_ w_ hk_
            have h143 : a_.eval (.tmp 143) = (.int .i64 1) := hk_.got 0 143 _ (by kernel_rfl) rfl rfl
            have hx_ := hk_.ext
            clear hk_
            refine flow_plain rfl ?_
            unfold gives
            have hc_ : ∀ v, a_.eval (.const v) = v := fun _ => rfl
            have hn_ : ∀ f, a_.eval (.func f) = .func (.func f) #[] #[] := fun _ => rfl
            generalize a_.eval = ρ_ at *
            go_simp
            exact ⟨Below.refl _ _, rfl⟩
          refine allFrom_cons ?_ ?_
          · intro a_ w_ hk_
            have h144 : a_.eval (.tmp 144) = (.bool true) := hk_.got 1 144 _ (by kernel_rfl) rfl rfl
            have hx_ := hk_.ext
            clear hk_
            refine flow_plain rfl ?_
            exact gives_move rfl ⟨Below.refl _ _, h144⟩
          refine allFrom_cons ?_ ?_
          · intro a_ w_ hk_
            have h13 : a_.eval (.tmp 13) = .pointer none := hk_.old 13 (by kernel_rfl)
            have hg_ : a_.eval (.tmp 145) = .bool true := hk_.got 2 145 _ (by kernel_rfl) rfl rfl
            have hy_ := hk_.want 2 _ 145 true rfl rfl hg_
            have hx_ := hk_.ext
            clear hk_
            refine flow_want rfl hy_ ?_
            exact gives_move rfl ⟨Below.refl _ _, h13⟩
          refine allFrom_cons ?_ ?_
          · intro a_ w_ hk_
            have h146 : a_.eval (.tmp 146) = (.pointer none) := hk_.got 3 146 _ (by kernel_rfl) rfl rfl
            have hg_ : a_.eval (.tmp 145) = .bool true := hk_.got 2 145 _ (by kernel_rfl) rfl rfl
            have hy_ := hk_.want 2 _ 145 true rfl rfl hg_
            have hx_ := hk_.ext
            clear hk_
            refine flow_want rfl hy_ ?_
            unfold gives
            have hc_ : ∀ v, a_.eval (.const v) = v := fun _ => rfl
            have hn_ : ∀ f, a_.eval (.func f) = .func (.func f) #[] #[] := fun _ => rfl
            clear hy_ hg_
            generalize a_.eval = ρ_ at *
            go_simp
            exact (Write_nil w_ 0 (.slice none 0 0)).mono fun e w' ⟨h1, h2⟩ => ⟨_, h1, h2 ▸ Below.refl _ _, rfl⟩
          refine allFrom_cons ?_ ?_
          · intro a_ w_ hk_
            have h147 : a_.eval (.tmp 147) = (.int .i64 1) := hk_.got 4 147 _ (by kernel_rfl) rfl rfl
            have hg_ : a_.eval (.tmp 145) = .bool true := hk_.got 2 145 _ (by kernel_rfl) rfl rfl
            have hy_ := hk_.want 2 _ 145 true rfl rfl hg_
            have hx_ := hk_.ext
            clear hk_
            refine flow_want rfl hy_ ?_
            unfold gives
            have hc_ : ∀ v, a_.eval (.const v) = v := fun _ => rfl
            have hn_ : ∀ f, a_.eval (.func f) = .func (.func f) #[] #[] := fun _ => rfl
            clear hy_ hg_
            generalize a_.eval = ρ_ at *
            go_simp
            exact ⟨Below.refl _ _, rfl⟩
          refine allFrom_cons ?_ ?_
          · intro a_ w_ hk_
            have h145 : a_.eval (.tmp 145) = (.bool true) := hk_.got 2 145 _ (by kernel_rfl) rfl rfl
            have h148 : a_.eval (.tmp 148) = (.bool true) := hk_.got 5 148 _ (by kernel_rfl) rfl rfl
            have hx_ := hk_.ext
            clear hk_
            refine flow_plain rfl ?_
            exact gives_pick rfl h145 ⟨Below.refl _ _, h148⟩
          refine allFrom_cons ?_ ?_
          · intro a_ w_ hk_
            have h149 : a_.eval (.tmp 149) = (.bool true) := hk_.got 6 149 _ (by kernel_rfl) rfl rfl
            have hx_ := hk_.ext
            clear hk_
            refine flow_plain rfl ?_
            exact gives_move rfl ⟨Below.refl _ _, h149⟩
          refine allFrom_cons ?_ ?_
          · intro a_ w_ hk_
            have h13 : a_.eval (.tmp 13) = .pointer none := hk_.old 13 (by kernel_rfl)
            have hg_ : a_.eval (.tmp 150) = .bool true := hk_.got 7 150 _ (by kernel_rfl) rfl rfl
            have hy_ := hk_.want 7 _ 150 true rfl rfl hg_
            have hx_ := hk_.ext
            clear hk_
            refine flow_want rfl hy_ ?_
            exact gives_move rfl ⟨Below.refl _ _, h13⟩
          refine allFrom_cons ?_ ?_
          · intro a_ w_ hk_
            have h151 : a_.eval (.tmp 151) = (.pointer none) := hk_.got 8 151 _ (by kernel_rfl) rfl rfl
            have hg_ : a_.eval (.tmp 150) = .bool true := hk_.got 7 150 _ (by kernel_rfl) rfl rfl
            have hy_ := hk_.want 7 _ 150 true rfl rfl hg_
            have hx_ := hk_.ext
            clear hk_
            refine flow_want rfl hy_ ?_
            unfold gives
            have hc_ : ∀ v, a_.eval (.const v) = v := fun _ => rfl
            have hn_ : ∀ f, a_.eval (.func f) = .func (.func f) #[] #[] := fun _ => rfl
            clear hy_ hg_
            generalize a_.eval = ρ_ at *
            go_simp
            exact (Sync_nil w_).mono fun e w' ⟨h1, h2⟩ => ⟨_, h1, h2 ▸ Below.refl _ _, rfl⟩
          refine allFrom_cons ?_ ?_
          · intro a_ w_ hk_
            have h152 : a_.eval (.tmp 152) = (.int .i64 1) := hk_.got 9 152 _ (by kernel_rfl) rfl rfl
            have hg_ : a_.eval (.tmp 150) = .bool true := hk_.got 7 150 _ (by kernel_rfl) rfl rfl
            have hy_ := hk_.want 7 _ 150 true rfl rfl hg_
            have hx_ := hk_.ext
            clear hk_
            refine flow_want rfl hy_ ?_
            unfold gives
            have hc_ : ∀ v, a_.eval (.const v) = v := fun _ => rfl
            have hn_ : ∀ f, a_.eval (.func f) = .func (.func f) #[] #[] := fun _ => rfl
            clear hy_ hg_
            generalize a_.eval = ρ_ at *
            go_simp
            exact ⟨Below.refl _ _, rfl⟩
          refine allFrom_cons ?_ ?_
          · intro a_ w_ hk_
            have h150 : a_.eval (.tmp 150) = (.bool true) := hk_.got 7 150 _ (by kernel_rfl) rfl rfl
            have h153 : a_.eval (.tmp 153) = (.bool true) := hk_.got 10 153 _ (by kernel_rfl) rfl rfl
            have hx_ := hk_.ext
            clear hk_
            refine flow_plain rfl ?_
            exact gives_pick rfl h150 ⟨Below.refl _ _, h153⟩
          refine allFrom_cons ?_ ?_
          · intro a_ w_ hk_
            have h154 : a_.eval (.tmp 154) = (.bool true) := hk_.got 11 154 _ (by kernel_rfl) rfl rfl
            have hx_ := hk_.ext
            clear hk_
            refine flow_plain rfl ?_
            exact gives_move rfl ⟨Below.refl _ _, h154⟩
          refine allFrom_cons ?_ ?_
          · intro a_ w_ hk_
            have h13 : a_.eval (.tmp 13) = .pointer none := hk_.old 13 (by kernel_rfl)
            have hg_ : a_.eval (.tmp 155) = .bool true := hk_.got 12 155 _ (by kernel_rfl) rfl rfl
            have hy_ := hk_.want 12 _ 155 true rfl rfl hg_
            have hx_ := hk_.ext
            clear hk_
            refine flow_want rfl hy_ ?_
            exact gives_move rfl ⟨Below.refl _ _, h13⟩
          refine allFrom_cons ?_ ?_
          · intro a_ w_ hk_
            have h156 : a_.eval (.tmp 156) = (.pointer none) := hk_.got 13 156 _ (by kernel_rfl) rfl rfl
            have hg_ : a_.eval (.tmp 155) = .bool true := hk_.got 12 155 _ (by kernel_rfl) rfl rfl
            have hy_ := hk_.want 12 _ 155 true rfl rfl hg_
            have hx_ := hk_.ext
            clear hk_
            refine flow_want rfl hy_ ?_
            unfold gives
            have hc_ : ∀ v, a_.eval (.const v) = v := fun _ => rfl
            have hn_ : ∀ f, a_.eval (.func f) = .func (.func f) #[] #[] := fun _ => rfl
            clear hy_ hg_
            generalize a_.eval = ρ_ at *
            go_simp
            exact (Len_nil w_).mono fun e w' ⟨h1, h2⟩ => ⟨_, h1, h2 ▸ Below.refl _ _, rfl⟩
          refine allFrom_cons ?_ ?_
          · intro a_ w_ hk_
            have h13 : a_.eval (.tmp 13) = .pointer none := hk_.old 13 (by kernel_rfl)
            have hg_ : a_.eval (.tmp 155) = .bool true := hk_.got 12 155 _ (by kernel_rfl) rfl rfl
            have hy_ := hk_.want 12 _ 155 true rfl rfl hg_
            have hx_ := hk_.ext
            clear hk_
            refine flow_want rfl hy_ ?_
            exact gives_move rfl ⟨Below.refl _ _, h13⟩
          refine allFrom_cons ?_ ?_
          · intro a_ w_ hk_
            have h158 : a_.eval (.tmp 158) = (.pointer none) := hk_.got 15 158 _ (by kernel_rfl) rfl rfl
            have hg_ : a_.eval (.tmp 155) = .bool true := hk_.got 12 155 _ (by kernel_rfl) rfl rfl
            have hy_ := hk_.want 12 _ 155 true rfl rfl hg_
            have hx_ := hk_.ext
            clear hk_
            refine flow_want rfl hy_ ?_
            unfold gives
            have hc_ : ∀ v, a_.eval (.const v) = v := fun _ => rfl
            have hn_ : ∀ f, a_.eval (.func f) = .func (.func f) #[] #[] := fun _ => rfl
            clear hy_ hg_
            generalize a_.eval = ρ_ at *
            go_simp
            exact (Loose_nil w_).mono fun e w' ⟨h1, h2⟩ => ⟨_, h1, h2 ▸ Below.refl _ _, rfl⟩
          refine allFrom_cons ?_ ?_
          · intro a_ w_ hk_
            have h157 : a_.eval (.tmp 157) = (.int .i64 0) := hk_.got 14 157 _ (by kernel_rfl) rfl rfl
            have h159 : a_.eval (.tmp 159) = (.int .i64 0) := hk_.got 16 159 _ (by kernel_rfl) rfl rfl
            have hg_ : a_.eval (.tmp 155) = .bool true := hk_.got 12 155 _ (by kernel_rfl) rfl rfl
            have hy_ := hk_.want 12 _ 155 true rfl rfl hg_
            have hx_ := hk_.ext
            clear hk_
            refine flow_want rfl hy_ ?_
            unfold gives
            have hc_ : ∀ v, a_.eval (.const v) = v := fun _ => rfl
            have hn_ : ∀ f, a_.eval (.func f) = .func (.func f) #[] #[] := fun _ => rfl
            clear hy_ hg_
            generalize a_.eval = ρ_ at *
            go_simp
            exact ⟨Below.refl _ _, rfl⟩
          refine allFrom_cons ?_ ?_
          · intro a_ w_ hk_
            have h160 : a_.eval (.tmp 160) = (.int .i64 0) := hk_.got 17 160 _ (by kernel_rfl) rfl rfl
            have hg_ : a_.eval (.tmp 155) = .bool true := hk_.got 12 155 _ (by kernel_rfl) rfl rfl
            have hy_ := hk_.want 12 _ 155 true rfl rfl hg_
            have hx_ := hk_.ext
            clear hk_
            refine flow_want rfl hy_ ?_
            unfold gives
            have hc_ : ∀ v, a_.eval (.const v) = v := fun _ => rfl
            have hn_ : ∀ f, a_.eval (.func f) = .func (.func f) #[] #[] := fun _ => rfl
            clear hy_ hg_
            generalize a_.eval = ρ_ at *
            go_simp
            exact ⟨Below.refl _ _, rfl⟩
          refine allFrom_cons ?_ ?_
          · intro a_ w_ hk_
            have h155 : a_.eval (.tmp 155) = (.bool true) := hk_.got 12 155 _ (by kernel_rfl) rfl rfl
            have h161 : a_.eval (.tmp 161) = (.bool true) := hk_.got 18 161 _ (by kernel_rfl) rfl rfl
            have hx_ := hk_.ext
            clear hk_
            refine flow_plain rfl ?_
            exact gives_pick rfl h155 ⟨Below.refl _ _, h161⟩
          refine allFrom_cons ?_ ?_
          · intro a_ w_ hk_
            have h162 : a_.eval (.tmp 162) = (.bool true) := hk_.got 19 162 _ (by kernel_rfl) rfl rfl
            have hx_ := hk_.ext
            clear hk_
            refine flow_plain rfl ?_
            exact gives_move rfl ⟨Below.refl _ _, h162⟩
          refine allFrom_cons ?_ ?_
          · intro a_ w_ hk_
            have h13 : a_.eval (.tmp 13) = .pointer none := hk_.old 13 (by kernel_rfl)
            have hg_ : a_.eval (.tmp 163) = .bool true := hk_.got 20 163 _ (by kernel_rfl) rfl rfl
            have hy_ := hk_.want 20 _ 163 true rfl rfl hg_
            have hx_ := hk_.ext
            clear hk_
            refine flow_want rfl hy_ ?_
            exact gives_move rfl ⟨Below.refl _ _, h13⟩
          refine allFrom_cons ?_ ?_
          · intro a_ w_ hk_
            have h164 : a_.eval (.tmp 164) = (.pointer none) := hk_.got 21 164 _ (by kernel_rfl) rfl rfl
            have hg_ : a_.eval (.tmp 163) = .bool true := hk_.got 20 163 _ (by kernel_rfl) rfl rfl
            have hy_ := hk_.want 20 _ 163 true rfl rfl hg_
            have hx_ := hk_.ext
            clear hk_
            refine flow_want rfl hy_ ?_
            unfold gives
            have hc_ : ∀ v, a_.eval (.const v) = v := fun _ => rfl
            have hn_ : ∀ f, a_.eval (.func f) = .func (.func f) #[] #[] := fun _ => rfl
            clear hy_ hg_
            generalize a_.eval = ρ_ at *
            go_simp
            exact (Dead_nil w_).mono fun e w' ⟨h1, h2⟩ => ⟨_, h1, h2 ▸ Below.refl _ _, rfl⟩
          refine allFrom_cons ?_ ?_
          · intro a_ w_ hk_
            have h165 : a_.eval (.tmp 165) = (.bool false) := hk_.got 22 165 _ (by kernel_rfl) rfl rfl
            have hg_ : a_.eval (.tmp 163) = .bool true := hk_.got 20 163 _ (by kernel_rfl) rfl rfl
            have hy_ := hk_.want 20 _ 163 true rfl rfl hg_
            have hx_ := hk_.ext
            clear hk_
            refine flow_want rfl hy_ ?_
            unfold gives
            have hc_ : ∀ v, a_.eval (.const v) = v := fun _ => rfl
            have hn_ : ∀ f, a_.eval (.func f) = .func (.func f) #[] #[] := fun _ => rfl
            clear hy_ hg_
            generalize a_.eval = ρ_ at *
            go_simp
            exact ⟨Below.refl _ _, rfl⟩
          refine allFrom_cons ?_ ?_
          · intro a_ w_ hk_
            have h163 : a_.eval (.tmp 163) = (.bool true) := hk_.got 20 163 _ (by kernel_rfl) rfl rfl
            have h166 : a_.eval (.tmp 166) = (.bool true) := hk_.got 23 166 _ (by kernel_rfl) rfl rfl
            have hx_ := hk_.ext
            clear hk_
            refine flow_plain rfl ?_
            exact gives_pick rfl h163 ⟨Below.refl _ _, h166⟩
          refine allFrom_cons ?_ ?_
          · intro a_ w_ hk_
            have h167 : a_.eval (.tmp 167) = (.bool true) := hk_.got 24 167 _ (by kernel_rfl) rfl rfl
            have hx_ := hk_.ext
            clear hk_
            refine flow_plain rfl ?_
            exact gives_assign rfl ⟨Below.refl _ _, h167⟩
          exact allFrom_nil
        intro f_ w_ hx_ hf_
        have h143 : f_ 143 = (.int .i64 1) := hf_ 0 143 _ (by decide) rfl rfl
        have h144 : f_ 144 = (.bool true) := hf_ 1 144 _ (by decide) rfl rfl
        have h145 : f_ 145 = (.bool true) := hf_ 2 145 _ (by decide) rfl rfl
        have h146 : f_ 146 = (.pointer none) := hf_ 3 146 _ (by decide) rfl rfl
        have h147 : f_ 147 = (.int .i64 1) := hf_ 4 147 _ (by decide) rfl rfl
        have h148 : f_ 148 = (.bool true) := hf_ 5 148 _ (by decide) rfl rfl
        have h149 : f_ 149 = (.bool true) := hf_ 6 149 _ (by decide) rfl rfl
        have h150 : f_ 150 = (.bool true) := hf_ 7 150 _ (by decide) rfl rfl
        have h151 : f_ 151 = (.pointer none) := hf_ 8 151 _ (by decide) rfl rfl
        have h152 : f_ 152 = (.int .i64 1) := hf_ 9 152 _ (by decide) rfl rfl
        have h153 : f_ 153 = (.bool true) := hf_ 10 153 _ (by decide) rfl rfl
        have h154 : f_ 154 = (.bool true) := hf_ 11 154 _ (by decide) rfl rfl
        have h155 : f_ 155 = (.bool true) := hf_ 12 155 _ (by decide) rfl rfl
        have h156 : f_ 156 = (.pointer none) := hf_ 13 156 _ (by decide) rfl rfl
        have h157 : f_ 157 = (.int .i64 0) := hf_ 14 157 _ (by decide) rfl rfl
        have h158 : f_ 158 = (.pointer none) := hf_ 15 158 _ (by decide) rfl rfl
        have h159 : f_ 159 = (.int .i64 0) := hf_ 16 159 _ (by decide) rfl rfl
        have h160 : f_ 160 = (.int .i64 0) := hf_ 17 160 _ (by decide) rfl rfl
        have h161 : f_ 161 = (.bool true) := hf_ 18 161 _ (by decide) rfl rfl
        have h162 : f_ 162 = (.bool true) := hf_ 19 162 _ (by decide) rfl rfl
        have h163 : f_ 163 = (.bool true) := hf_ 20 163 _ (by decide) rfl rfl
        have h164 : f_ 164 = (.pointer none) := hf_ 21 164 _ (by decide) rfl rfl
        have h165 : f_ 165 = (.bool false) := hf_ 22 165 _ (by decide) rfl rfl
        have h166 : f_ 166 = (.bool true) := hf_ 23 166 _ (by decide) rfl rfl
        have h167 : f_ 167 = (.bool true) := hf_ 24 167 _ (by decide) rfl rfl
        have h4 : f_ 4 = (.bool true) := hf_ 25 4 _ (by decide) rfl rfl
        simp only [mix, h143, h144, h145, h146, h147, h148, h149, h150, h151, h152, h153, h154, h155, h156, h157, h158, h159, h160, h161, h162, h163, h164, h165, h166, h167, h4]
        clear h143 h144 h145 h146 h147 h148 h149 h150 h151 h152 h153 h154 h155 h156 h157 h158 h159 h160 h161 h162 h163 h164 h165 h166 h167 h4
        clear hf_
        go_wp2_with fail
        exact bodyPost_ret (results_tmp rfl _ _ _) rfl ⟨rfl, bx_trans (bx_trans HBT.out hbt) hx_⟩
    · have hlti : ¬ (k : Int) < (acts.length : Int) := by omega
      go_wp2_with fail
      refine wp_hold (wp_region_lit ?_)
      refine wp_flowSE [0, 1, 3, 7, 15, 31, 63, 127, 255, 511, 1023, 2047] 12 [false, false, false, false, false, false, false, false, false, false, false, false, false, false, false, false, false, false, false, false, false, false, false, false, false, false, false, false, false, false, false, false, false, false, false, false, false, false, false, false, false, true, true, true, true, true, true, true, true, true, true, true, true] (by kernel_rfl) (by kernel_rfl) (by kernel_rfl) [FP.eq (.int .i64 (k : Int)), FP.eq (.slice As acts.length cs), FP.eq (.int .i64 (acts.length : Int)), FP.eq (.bool false), FP.eq (.bool false), FP.any, FP.any, FP.eq (.bool false), FP.eq (.bool false), FP.any, FP.any, FP.eq (.bool false)] ?_ ?_
      · refine allFrom_cons ?_ ?_
        · intro a_ w_ hk_
          have h10 : a_.eval (.tmp 10) = .int .i64 (k : Int) := hk_.old 10 (by kernel_rfl)
          have hx_ := hk_.ext
          clear hk_
          refine flow_plain rfl ?_
          exact gives_move rfl ⟨Below.refl _ _, h10⟩
        refine allFrom_cons ?_ ?_
        · intro a_ w_ hk_
          have h1 : a_.eval (.tmp 1) = .slice As acts.length cs := hk_.old 1 (by kernel_rfl)
          have hx_ := hk_.ext
          clear hk_
          refine flow_plain rfl ?_
          exact gives_move rfl ⟨Below.refl _ _, h1⟩
        refine allFrom_cons ?_ ?_
        · intro a_ w_ hk_
          have h42 : a_.eval (.tmp 42) = (.slice As acts.length cs) := hk_.got 1 42 _ (by kernel_rfl) rfl rfl
          have hx_ := hk_.ext
          clear hk_
          refine flow_plain rfl ?_
          unfold gives
          have hc_ : ∀ v, a_.eval (.const v) = v := fun _ => rfl
          have hn_ : ∀ f, a_.eval (.func f) = .func (.func f) #[] #[] := fun _ => rfl
          generalize a_.eval = ρ_ at *
          go_simp
          exact ⟨Below.refl _ _, rfl⟩
        refine allFrom_cons ?_ ?_
        · intro a_ w_ hk_
          have h41 : a_.eval (.tmp 41) = (.int .i64 (k : Int)) := hk_.got 0 41 _ (by kernel_rfl) rfl rfl
          have h43 : a_.eval (.tmp 43) = (.int .i64 (acts.length : Int)) := hk_.got 2 43 _ (by kernel_rfl) rfl rfl
          have hx_ := hk_.ext
          clear hk_
          refine flow_plain rfl ?_
          unfold gives
          have hc_ : ∀ v, a_.eval (.const v) = v := fun _ => rfl
          have hn_ : ∀ f, a_.eval (.func f) = .func (.func f) #[] #[] := fun _ => rfl
          generalize a_.eval = ρ_ at *
          go_simp
          exact ⟨Below.refl _ _, rfl⟩
        refine allFrom_cons ?_ ?_
        · intro a_ w_ hk_
          have h44 : a_.eval (.tmp 44) = (.bool false) := hk_.got 3 44 _ (by kernel_rfl) rfl rfl
          have hx_ := hk_.ext
          clear hk_
          refine flow_plain rfl ?_
          exact gives_move rfl ⟨Below.refl _ _, h44⟩
        refine allFrom_cons ?_ ?_
        · intro a_ w_ hk_
          have h10 : a_.eval (.tmp 10) = .int .i64 (k : Int) := hk_.old 10 (by kernel_rfl)
          have hg_ : a_.eval (.tmp 45) = .bool false := hk_.got 4 45 _ (by kernel_rfl) rfl rfl
          have hy_ := hk_.want 4 _ 45 false rfl rfl hg_
          have hx_ := hk_.ext
          clear hk_
          exact flow_skip rfl hy_ (by decide) trivial
        refine allFrom_cons ?_ ?_
        · intro a_ w_ hk_
          have hg_ : a_.eval (.tmp 45) = .bool false := hk_.got 4 45 _ (by kernel_rfl) rfl rfl
          have hy_ := hk_.want 4 _ 45 false rfl rfl hg_
          have hx_ := hk_.ext
          clear hk_
          exact flow_skip rfl hy_ (by decide) trivial
        refine allFrom_cons ?_ ?_
        · intro a_ w_ hk_
          have h45 : a_.eval (.tmp 45) = (.bool false) := hk_.got 4 45 _ (by kernel_rfl) rfl rfl
          have hx_ := hk_.ext
          clear hk_
          refine flow_plain rfl ?_
          exact gives_pick rfl h45 ⟨Below.refl _ _, rfl⟩
        refine allFrom_cons ?_ ?_
        · intro a_ w_ hk_
          have h48 : a_.eval (.tmp 48) = (.bool false) := hk_.got 7 48 _ (by kernel_rfl) rfl rfl
          have hx_ := hk_.ext
          clear hk_
          refine flow_plain rfl ?_
          exact gives_move rfl ⟨Below.refl _ _, h48⟩
        refine allFrom_cons ?_ ?_
        · intro a_ w_ hk_
          have h6 : a_.eval (.tmp 6) = .pointer (some ⟨g, 0, none⟩) := hk_.old 6 (by kernel_rfl)
          have hg_ : a_.eval (.tmp 49) = .bool false := hk_.got 8 49 _ (by kernel_rfl) rfl rfl
          have hy_ := hk_.want 8 _ 49 false rfl rfl hg_
          have hx_ := hk_.ext
          clear hk_
          exact flow_skip rfl hy_ (by decide) trivial
        refine allFrom_cons ?_ ?_
        · intro a_ w_ hk_
          have hg_ : a_.eval (.tmp 49) = .bool false := hk_.got 8 49 _ (by kernel_rfl) rfl rfl
          have hy_ := hk_.want 8 _ 49 false rfl rfl hg_
          have hx_ := hk_.ext
          clear hk_
          exact flow_skip rfl hy_ (by decide) trivial
        refine allFrom_cons ?_ ?_
        · intro a_ w_ hk_
          have h49 : a_.eval (.tmp 49) = (.bool false) := hk_.got 8 49 _ (by kernel_rfl) rfl rfl
          have hx_ := hk_.ext
          clear hk_
          refine flow_plain rfl ?_
          exact gives_pick rfl h49 ⟨Below.refl _ _, rfl⟩
        exact allFrom_nil
      intro f_ w_ hx_ hf_
      have h41 : f_ 41 = (.int .i64 (k : Int)) := hf_ 0 41 _ (by decide) rfl rfl
      have h42 : f_ 42 = (.slice As acts.length cs) := hf_ 1 42 _ (by decide) rfl rfl
      have h43 : f_ 43 = (.int .i64 (acts.length : Int)) := hf_ 2 43 _ (by decide) rfl rfl
      have h44 : f_ 44 = (.bool false) := hf_ 3 44 _ (by decide) rfl rfl
      have h45 : f_ 45 = (.bool false) := hf_ 4 45 _ (by decide) rfl rfl
      have h48 : f_ 48 = (.bool false) := hf_ 7 48 _ (by decide) rfl rfl
      have h49 : f_ 49 = (.bool false) := hf_ 8 49 _ (by decide) rfl rfl
      have h52 : f_ 52 = (.bool false) := hf_ 11 52 _ (by decide) rfl rfl
      simp only [mix, h41, h42, h43, h44, h45, h48, h49, h52]
      clear h41 h42 h43 h44 h45 h48 h49 h52
      clear hf_
      have HBT := hid (bx_trans HI.out.below hx_)
      clear hx_ HI
      go_wp2_with fail
      refine (Fail_nil _ 1).mono ?_
      rintro e wt1 ⟨rfl, rfl⟩
      go_wp2_with fail
      refine (Crash_nil _ (.slice none 0 0)).mono ?_
      rintro e wt2 ⟨rfl, rfl⟩
      go_wp2_with fail
      refine (Read_nil _ 0).mono ?_
      rintro e wt3 ⟨vt, rfl, hvt, hbt⟩
      go_wp2_with fail
      refine wp_hold (wp_region_lit ?_)
      refine wp_flowSE [0, 1, 3, 7, 15, 31, 63, 127, 255, 511, 1023, 2047, 4095, 8191, 16383, 32767, 65535, 131071, 262143, 524287, 1048575, 2097151, 4194303, 8388607, 16777215, 33554431] 26 [false, false, false, false, true, false, false, false, false, false, false, false, false, false, false, false, false, false, false, false, false, false, false, false, false, false, false, false, false, false, false, false, false, false, false, false, false, false, false, false, false, false, false, false, false, false, false, false, false, false, false, false, false, false, false, false, false, false, false, false, false, false, false, false, false, false, false, false, false, false, false, false, false, false, false, false, false, false, false, false, false, false, false, false, false, false, false, false, false, false, false, false, false, false, false, false, false, false, false, false, false, false, false, false, false, false, false, false, false, false, false, false, false, false, false, false, false, false, false, false, false, false, false, false, false, false, false, false, false, false, false, false, false, false, false, false, false, false, false, false, false, false, false, true, true, true, true, true, true, true, true, true, true, true, true, true, true, true, true, true, true, true, true, true, true, true, true, true] (by kernel_rfl) (by kernel_rfl) (by kernel_rfl) [FP.eq (.int .i64 1), FP.eq (.bool true), FP.eq (.bool true), FP.eq (.pointer none), FP.eq (.int .i64 1), FP.eq (.bool true), FP.eq (.bool true), FP.eq (.bool true), FP.eq (.pointer none), FP.eq (.int .i64 1), FP.eq (.bool true), FP.eq (.bool true), FP.eq (.bool true), FP.eq (.pointer none), FP.eq (.int .i64 0), FP.eq (.pointer none), FP.eq (.int .i64 0), FP.eq (.int .i64 0), FP.eq (.bool true), FP.eq (.bool true), FP.eq (.bool true), FP.eq (.pointer none), FP.eq (.bool false), FP.eq (.bool true), FP.eq (.bool true), FP.eq (.bool true)] ?_ ?_
      · refine allFrom_cons ?_ ?_
        · intro a_ w_ hk_
          have h15 : a_.eval (.tmp 15) = .int .i64 1 := hk_.old 15 (by kernel_rfl)
          have hx_ := hk_.ext
          clear hk_
          refine flow_plain rfl ?_
          exact gives_move rfl ⟨Below.refl _ _, h15⟩
        refine allFrom_cons ?_ ?_
        · intro a_ w_ hk_
          have h143 : a_.eval (.tmp 143) = (.int .i64 1) := hk_.got 0 143 _ (by kernel_rfl) rfl rfl
          have hx_ := hk_.ext
          clear hk_
          refine flow_plain rfl ?_
          unfold gives
          have hc_ : ∀ v, a_.eval (.const v) = v := fun _ => rfl
          have hn_ : ∀ f, a_.eval (.func f) = .func (.func f) #[] #[] := fun _ => rfl
          generalize a_.eval = ρ_ at *
          go_simp
          exact ⟨Below.refl _ _, rfl⟩
        refine allFrom_cons ?_ ?_
        · intro a_ w_ hk_
          have h144 : a_.eval (.tmp 144) = (.bool true) := hk_.got 1 144 _ (by kernel_rfl) rfl rfl
          have hx_ := hk_.ext
          clear hk_
          refine flow_plain rfl ?_
          exact gives_move rfl ⟨Below.refl _ _, h144⟩
        refine allFrom_cons ?_ ?_
        · intro a_ w_ hk_
          have h13 : a_.eval (.tmp 13) = .pointer none := hk_.old 13 (by kernel_rfl)
          have hg_ : a_.eval (.tmp 145) = .bool true := hk_.got 2 145 _ (by kernel_rfl) rfl rfl
          have hy_ := hk_.want 2 _ 145 true rfl rfl hg_
          have hx_ := hk_.ext
          clear hk_
          refine flow_want rfl hy_ ?_
          exact gives_move rfl ⟨Below.refl _ _, h13⟩
        refine allFrom_cons ?_ ?_
        · intro a_ w_ hk_
          have h146 : a_.eval (.tmp 146) = (.pointer none) := hk_.got 3 146 _ (by kernel_rfl) rfl rfl
          have hg_ : a_.eval (.tmp 145) = .bool true := hk_.got 2 145 _ (by kernel_rfl) rfl rfl
          have hy_ := hk_.want 2 _ 145 true rfl rfl hg_
          have hx_ := hk_.ext
          clear hk_
          refine flow_want rfl hy_ ?_
          unfold gives
          have hc_ : ∀ v, a_.eval (.const v) = v := fun _ => rfl
          have hn_ : ∀ f, a_.eval (.func f) = .func (.func f) #[] #[] := fun _ => rfl
          clear hy_ hg_
          generalize a_.eval = ρ_ at *
          go_simp
          exact (Write_nil w_ 0 (.slice none 0 0)).mono fun e w' ⟨h1, h2⟩ => ⟨_, h1, h2 ▸ Below.refl _ _, rfl⟩
        refine allFrom_cons ?_ ?_
        · intro a_ w_ hk_
          have h147 : a_.eval (.tmp 147) = (.int .i64 1) := hk_.got 4 147 _ (by kernel_rfl) rfl rfl
          have hg_ : a_.eval (.tmp 145) = .bool true := hk_.got 2 145 _ (by kernel_rfl) rfl rfl
          have hy_ := hk_.want 2 _ 145 true rfl rfl hg_
          have hx_ := hk_.ext
          clear hk_
          refine flow_want rfl hy_ ?_
          unfold gives
          have hc_ : ∀ v, a_.eval (.const v) = v := fun _ => rfl
          have hn_ : ∀ f, a_.eval (.func f) = .func (.func f) #[] #[] := fun _ => rfl
          clear hy_ hg_
          generalize a_.eval = ρ_ at *
          go_simp
          exact ⟨Below.refl _ _, rfl⟩
        refine allFrom_cons ?_ ?_
        · intro a_ w_ hk_
          have h145 : a_.eval (.tmp 145) = (.bool true) := hk_.got 2 145 _ (by kernel_rfl) rfl rfl
          have h148 : a_.eval (.tmp 148) = (.bool true) := hk_.got 5 148 _ (by kernel_rfl) rfl rfl
          have hx_ := hk_.ext
          clear hk_
          refine flow_plain rfl ?_
          exact gives_pick rfl h145 ⟨Below.refl _ _, h148⟩
        refine allFrom_cons ?_ ?_
        · intro a_ w_ hk_
          have h149 : a_.eval (.tmp 149) = (.bool true) := hk_.got 6 149 _ (by kernel_rfl) rfl rfl
          have hx_ := hk_.ext
          clear hk_
          refine flow_plain rfl ?_
          exact gives_move rfl ⟨Below.refl _ _, h149⟩
        refine allFrom_cons ?_ ?_
        · intro a_ w_ hk_
          have h13 : a_.eval (.tmp 13) = .pointer none := hk_.old 13 (by kernel_rfl)
          have hg_ : a_.eval (.tmp 150) = .bool true := hk_.got 7 150 _ (by kernel_rfl) rfl rfl
          have hy_ := hk_.want 7 _ 150 true rfl rfl hg_
          have hx_ := hk_.ext
          clear hk_
          refine flow_want rfl hy_ ?_
          exact gives_move rfl ⟨Below.refl _ _, h13⟩
        refine allFrom_cons ?_ ?_
        · intro a_ w_ hk_
          have h151 : a_.eval (.tmp 151) = (.pointer none) := hk_.got 8 151 _ (by kernel_rfl) rfl rfl
          have hg_ : a_.eval (.tmp 150) = .bool true := hk_.got 7 150 _ (by kernel_rfl) rfl rfl
          have hy_ := hk_.want 7 _ 150 true rfl rfl hg_
          have hx_ := hk_.ext
          clear hk_
          refine flow_want rfl hy_ ?_
          unfold gives
          have hc_ : ∀ v, a_.eval (.const v) = v := fun _ => rfl
          have hn_ : ∀ f, a_.eval (.func f) = .func (.func f) #[] #[] := fun _ => rfl
          clear hy_ hg_
          generalize a_.eval = ρ_ at *
          go_simp
          exact (Sync_nil w_).mono fun e w' ⟨h1, h2⟩ => ⟨_, h1, h2 ▸ Below.refl _ _, rfl⟩
        refine allFrom_cons ?_ ?_
        · intro a_ w_ hk_
          have h152 : a_.eval (.tmp 152) = (.int .i64 1) := hk_.got 9 152 _ (by kernel_rfl) rfl rfl
          have hg_ : a_.eval (.tmp 150) = .bool true := hk_.got 7 150 _ (by kernel_rfl) rfl rfl
          have hy_ := hk_.want 7 _ 150 true rfl rfl hg_
          have hx_ := hk_.ext
          clear hk_
          refine flow_want rfl hy_ ?_
          unfold gives
          have hc_ : ∀ v, a_.eval (.const v) = v := fun _ => rfl
          have hn_ : ∀ f, a_.eval (.func f) = .func (.func f) #[] #[] := fun _ => rfl
          clear hy_ hg_
          generalize a_.eval = ρ_ at *
          go_simp
          exact ⟨Below.refl _ _, rfl⟩
        refine allFrom_cons ?_ ?_
        · intro a_ w_ hk_
          have h150 : a_.eval (.tmp 150) = (.bool true) := hk_.got 7 150 _ (by kernel_rfl) rfl rfl
          have h153 : a_.eval (.tmp 153) = (.bool true) := hk_.got 10 153 _ (by kernel_rfl) rfl rfl
          have hx_ := hk_.ext
          clear hk_
          refine flow_plain rfl ?_
          exact gives_pick rfl h150 ⟨Below.refl _ _, h153⟩
        refine allFrom_cons ?_ ?_
        · intro a_ w_ hk_
          have h154 : a_.eval (.tmp 154) = (.bool true) := hk_.got 11 154 _ (by kernel_rfl) rfl rfl
          have hx_ := hk_.ext
          clear hk_
          refine flow_plain rfl ?_
          exact gives_move rfl ⟨Below.refl _ _, h154⟩
        refine allFrom_cons ?_ ?_
        · intro a_ w_ hk_
          have h13 : a_.eval (.tmp 13) = .pointer none := hk_.old 13 (by kernel_rfl)
          have hg_ : a_.eval (.tmp 155) = .bool true := hk_.got 12 155 _ (by kernel_rfl) rfl rfl
          have hy_ := hk_.want 12 _ 155 true rfl rfl hg_
          have hx_ := hk_.ext
          clear hk_
          refine flow_want rfl hy_ ?_
          exact gives_move rfl ⟨Below.refl _ _, h13⟩
        refine allFrom_cons ?_ ?_
        · intro a_ w_ hk_
          have h156 : a_.eval (.tmp 156) = (.pointer none) := hk_.got 13 156 _ (by kernel_rfl) rfl rfl
          have hg_ : a_.eval (.tmp 155) = .bool true := hk_.got 12 155 _ (by kernel_rfl) rfl rfl
          have hy_ := hk_.want 12 _ 155 true rfl rfl hg_
          have hx_ := hk_.ext
          clear hk_
          refine flow_want rfl hy_ ?_
          unfold gives
          have hc_ : ∀ v, a_.eval (.const v) = v := fun _ => rfl
          have hn_ : ∀ f, a_.eval (.func f) = .func (.func f) #[] #[] := fun _ => rfl
          clear hy_ hg_
          generalize a_.eval = ρ_ at *
          go_simp
          exact (Len_nil w_).mono fun e w' ⟨h1, h2⟩ => ⟨_, h1, h2 ▸ Below.refl _ _, rfl⟩
        refine allFrom_cons ?_ ?_
        · intro a_ w_ hk_
          have h13 : a_.eval (.tmp 13) = .pointer none := hk_.old 13 (by kernel_rfl)
          have hg_ : a_.eval (.tmp 155) = .bool true := hk_.got 12 155 _ (by kernel_rfl) rfl rfl
          have hy_ := hk_.want 12 _ 155 true rfl rfl hg_
          have hx_ := hk_.ext
          clear hk_
          refine flow_want rfl hy_ ?_
          exact gives_move rfl ⟨Below.refl _ _, h13⟩
        refine allFrom_cons ?_ ?_
        · intro a_ w_ hk_
          have h158 : a_.eval (.tmp 158) = (.pointer none) := hk_.got 15 158 _ (by kernel_rfl) rfl rfl
          have hg_ : a_.eval (.tmp 155) = .bool true := hk_.got 12 155 _ (by kernel_rfl) rfl rfl
          have hy_ := hk_.want 12 _ 155 true rfl rfl hg_
          have hx_ := hk_.ext
          clear hk_
          refine flow_want rfl hy_ ?_
          unfold gives
          have hc_ : ∀ v, a_.eval (.const v) = v := fun _ => rfl
          have hn_ : ∀ f, a_.eval (.func f) = .func (.func f) #[] #[] := fun _ => rfl
          clear hy_ hg_
          generalize a_.eval = ρ_ at *
          go_simp
          exact (Loose_nil w_).mono fun e w' ⟨h1, h2⟩ => ⟨_, h1, h2 ▸ Below.refl _ _, rfl⟩
        refine allFrom_cons ?_ ?_
        · intro a_ w_ hk_
          have h157 : a_.eval (.tmp 157) = (.int .i64 0) := hk_.got 14 157 _ (by kernel_rfl) rfl rfl
          have h159 : a_.eval (.tmp 159) = (.int .i64 0) := hk_.got 16 159 _ (by kernel_rfl) rfl rfl
          have hg_ : a_.eval (.tmp 155) = .bool true := hk_.got 12 155 _ (by kernel_rfl) rfl rfl
          have hy_ := hk_.want 12 _ 155 true rfl rfl hg_
          have hx_ := hk_.ext
          clear hk_
          refine flow_want rfl hy_ ?_
          unfold gives
          have hc_ : ∀ v, a_.eval (.const v) = v := fun _ => rfl
          have hn_ : ∀ f, a_.eval (.func f) = .func (.func f) #[] #[] := fun _ => rfl
          clear hy_ hg_
          generalize a_.eval = ρ_ at *
          go_simp
          exact ⟨Below.refl _ _, rfl⟩
        refine allFrom_cons ?_ ?_
        · intro a_ w_ hk_
          have h160 : a_.eval (.tmp 160) = (.int .i64 0) := hk_.got 17 160 _ (by kernel_rfl) rfl rfl
          have hg_ : a_.eval (.tmp 155) = .bool true := hk_.got 12 155 _ (by kernel_rfl) rfl rfl
          have hy_ := hk_.want 12 _ 155 true rfl rfl hg_
          have hx_ := hk_.ext
          clear hk_
          refine flow_want rfl hy_ ?_
          unfold gives
          have hc_ : ∀ v, a_.eval (.const v) = v := fun _ => rfl
          have hn_ : ∀ f, a_.eval (.func f) = .func (.func f) #[] #[] := fun _ => rfl
          clear hy_ hg_
          generalize a_.eval = ρ_ at *
          go_simp
          exact ⟨Below.refl _ _, rfl⟩
        refine allFrom_cons ?_ ?_
        · intro a_ w_ hk_
          have h155 : a_.eval (.tmp 155) = (.bool true) := hk_.got 12 155 _ (by kernel_rfl) rfl rfl
          have h161 : a_.eval (.tmp 161) = (.bool true) := hk_.got 18 161 _ (by kernel_rfl) rfl rfl
          have hx_ := hk_.ext
          clear hk_
          refine flow_plain rfl ?_
          exact gives_pick rfl h155 ⟨Below.refl _ _, h161⟩
        refine allFrom_cons ?_ ?_
        · intro a_ w_ hk_
          have h162 : a_.eval (.tmp 162) = (.bool true) := hk_.got 19 162 _ (by kernel_rfl) rfl rfl
          have hx_ := hk_.ext
          clear hk_
          refine flow_plain rfl ?_
          exact gives_move rfl ⟨Below.refl _ _, h162⟩
        refine allFrom_cons ?_ ?_
        · intro a_ w_ hk_
          have h13 : a_.eval (.tmp 13) = .pointer none := hk_.old 13 (by kernel_rfl)
          have hg_ : a_.eval (.tmp 163) = .bool true := hk_.got 20 163 _ (by kernel_rfl) rfl rfl
          have hy_ := hk_.want 20 _ 163 true rfl rfl hg_
          have hx_ := hk_.ext
          clear hk_
          refine flow_want rfl hy_ ?_
          exact gives_move rfl ⟨Below.refl _ _, h13⟩
        refine allFrom_cons ?_ ?_
        · intro a_ w_ hk_
          have h164 : a_.eval (.tmp 164) = (.pointer none) := hk_.got 21 164 _ (by kernel_rfl) rfl rfl
          have hg_ : a_.eval (.tmp 163) = .bool true := hk_.got 20 163 _ (by kernel_rfl) rfl rfl
          have hy_ := hk_.want 20 _ 163 true rfl rfl hg_
          have hx_ := hk_.ext
          clear hk_
          refine flow_want rfl hy_ ?_
          unfold gives
          have hc_ : ∀ v, a_.eval (.const v) = v := fun _ => rfl
          have hn_ : ∀ f, a_.eval (.func f) = .func (.func f) #[] #[] := fun _ => rfl
          clear hy_ hg_
          generalize a_.eval = ρ_ at *
          go_simp
          exact (Dead_nil w_).mono fun e w' ⟨h1, h2⟩ => ⟨_, h1, h2 ▸ Below.refl _ _, rfl⟩
        refine allFrom_cons ?_ ?_
        · intro a_ w_ hk_
          have h165 : a_.eval (.tmp 165) = (.bool false) := hk_.got 22 165 _ (by kernel_rfl) rfl rfl
          have hg_ : a_.eval (.tmp 163) = .bool true := hk_.got 20 163 _ (by kernel_rfl) rfl rfl
          have hy_ := hk_.want 20 _ 163 true rfl rfl hg_
          have hx_ := hk_.ext
          clear hk_
          refine flow_want rfl hy_ ?_
          unfold gives
          have hc_ : ∀ v, a_.eval (.const v) = v := fun _ => rfl
          have hn_ : ∀ f, a_.eval (.func f) = .func (.func f) #[] #[] := fun _ => rfl
          clear hy_ hg_
          generalize a_.eval = ρ_ at *
          go_simp
          exact ⟨Below.refl _ _, rfl⟩
        refine allFrom_cons ?_ ?_
        · intro a_ w_ hk_
          have h163 : a_.eval (.tmp 163) = (.bool true) := hk_.got 20 163 _ (by kernel_rfl) rfl rfl
          have h166 : a_.eval (.tmp 166) = (.bool true) := hk_.got 23 166 _ (by kernel_rfl) rfl rfl
          have hx_ := hk_.ext
          clear hk_
          refine flow_plain rfl ?_
          exact gives_pick rfl h163 ⟨Below.refl _ _, h166⟩
        refine allFrom_cons ?_ ?_
        · intro a_ w_ hk_
          have h167 : a_.eval (.tmp 167) = (.bool true) := hk_.got 24 167 _ (by kernel_rfl) rfl rfl
          have hx_ := hk_.ext
          clear hk_
          refine flow_plain rfl ?_
          exact gives_assign rfl ⟨Below.refl _ _, h167⟩
        exact allFrom_nil
      intro f_ w_ hx_ hf_
      have h143 : f_ 143 = (.int .i64 1) := hf_ 0 143 _ (by decide) rfl rfl
      have h144 : f_ 144 = (.bool true) := hf_ 1 144 _ (by decide) rfl rfl
      have h145 : f_ 145 = (.bool true) := hf_ 2 145 _ (by decide) rfl rfl
      have h146 : f_ 146 = (.pointer none) := hf_ 3 146 _ (by decide) rfl rfl
      have h147 : f_ 147 = (.int .i64 1) := hf_ 4 147 _ (by decide) rfl rfl
      have h148 : f_ 148 = (.bool true) := hf_ 5 148 _ (by decide) rfl rfl
      have h149 : f_ 149 = (.bool true) := hf_ 6 149 _ (by decide) rfl rfl
      have h150 : f_ 150 = (.bool true) := hf_ 7 150 _ (by decide) rfl rfl
      have h151 : f_ 151 = (.pointer none) := hf_ 8 151 _ (by decide) rfl rfl
      have h152 : f_ 152 = (.int .i64 1) := hf_ 9 152 _ (by decide) rfl rfl
      have h153 : f_ 153 = (.bool true) := hf_ 10 153 _ (by decide) rfl rfl
      have h154 : f_ 154 = (.bool true) := hf_ 11 154 _ (by decide) rfl rfl
      have h155 : f_ 155 = (.bool true) := hf_ 12 155 _ (by decide) rfl rfl
      have h156 : f_ 156 = (.pointer none) := hf_ 13 156 _ (by decide) rfl rfl
      have h157 : f_ 157 = (.int .i64 0) := hf_ 14 157 _ (by decide) rfl rfl
      have h158 : f_ 158 = (.pointer none) := hf_ 15 158 _ (by decide) rfl rfl
      have h159 : f_ 159 = (.int .i64 0) := hf_ 16 159 _ (by decide) rfl rfl
      have h160 : f_ 160 = (.int .i64 0) := hf_ 17 160 _ (by decide) rfl rfl
      have h161 : f_ 161 = (.bool true) := hf_ 18 161 _ (by decide) rfl rfl
      have h162 : f_ 162 = (.bool true) := hf_ 19 162 _ (by decide) rfl rfl
      have h163 : f_ 163 = (.bool true) := hf_ 20 163 _ (by decide) rfl rfl
      have h164 : f_ 164 = (.pointer none) := hf_ 21 164 _ (by decide) rfl rfl
      have h165 : f_ 165 = (.bool false) := hf_ 22 165 _ (by decide) rfl rfl
      have h166 : f_ 166 = (.bool true) := hf_ 23 166 _ (by decide) rfl rfl
      have h167 : f_ 167 = (.bool true) := hf_ 24 167 _ (by decide) rfl rfl
      have h4 : f_ 4 = (.bool true) := hf_ 25 4 _ (by decide) rfl rfl
      simp only [mix, h143, h144, h145, h146, h147, h148, h149, h150, h151, h152, h153, h154, h155, h156, h157, h158, h159, h160, h161, h162, h163, h164, h165, h166, h167, h4]
      clear h143 h144 h145 h146 h147 h148 h149 h150 h151 h152 h153 h154 h155 h156 h157 h158 h159 h160 h161 h162 h163 h164 h165 h166 h167 h4
      clear hf_
      go_wp2_with fail
      exact bodyPost_ret (results_tmp rfl _ _ _) rfl ⟨rfl, bx_trans (bx_trans HBT.out hbt) hx_⟩
end Go.Proofs.Ytnbjoebdbbhbkaa
