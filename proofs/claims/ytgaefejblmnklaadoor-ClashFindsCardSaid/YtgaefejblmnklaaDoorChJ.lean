
/- Chains: Verify's walk, where the whole isn't known. -/
import Derived.Test.YtgaefejblmnklaaDoorChV
namespace Go.Proofs.YtgaefejblmnklaaDoor
open Go.RowKit
set_option linter.unusedVariables false
set_option maxRecDepth 10000 in
set_option maxHeartbeats 4000000 in
theorem Verify_N (w : World) (hL : LaidC w) (m n p c : Nat) (A : Option Addr) (old now : List UInt8) (path : List (List UInt8)) (hpl : path.length = p) (h1 : 1 ≤ m) (hmn : m < n) (hn : n < 18446744073709551616) (ho : old.length = 32) (hw : now.length = 32) (hpa : ∀ x ∈ path, x.length = 32) (hr : Rd w w.heap.size A (path.flatten.map cb)) (hc : p ≤ c) (hc2 : c ≤ 9223372036854775807) (hlong : p = longN m n) (hwh : wholeN m n = false) :
    Calls Tryd.prog 16 #[.agg (kcell m old).toArray, .agg (kcell n now).toArray, .slice A p c] w fun e w' => e = .returned (.int .i64 (verL m n old now path)) ∧ Below w.heap.size w w' := by
  have hm : m < 18446744073709551616 := by omega
  have hm0 : m ≠ 0 := by omega
  obtain ⟨htz, x, hmx⟩ := tzN_spec hm0 hm
  have hruns := runs_steps n m (tzN m) x hmx hmn
  have hsp1 := steps_pos h1 hmn
  have hle65 := longN_le h1 (Nat.le_of_lt hmn) hn
  have hlo := longN_eq h1 (Nat.le_of_lt hmn)
  have hver := verL_go (old := old) (now := now) h1 (Nat.le_of_lt hmn) (hpl.trans hlong)
  have hand := and_u64 h1 hm
  have hw0 := and_whole h1 hmn
  rw [hwh] at hlo hw0
  unfold madeL at hver
  rw [hwh] at hver
  have hdl : (steps m n).reverse.length = (steps m n).length := List.length_reverse
  generalize (steps m n).reverse = ds at *
  generalize (steps m n).length = r at *
  simp only [Bool.false_eq_true, ↓reduceIte] at hlo hver
  have hz : m &&& (m - 1) ≠ 0 := by rw [Ne, hw0]; simp
  have hne : path ≠ [] := by intro h0; rw [h0] at hpl; simp at hpl; omega
  obtain ⟨x0, rest, rfl⟩ := List.exists_cons_of_ne_nil hne
  rw [List.getD_cons_zero, List.drop_succ_cons, List.drop_zero] at hver
  have hrl : rest.length = r := by simp at hpl; omega
  have hrk : ∀ y ∈ rest, y.length = 32 := fun y hy => hpa y (List.mem_cons_of_mem _ hy)
  have hxl : x0.length = 32 := hpa x0 List.mem_cons_self
  have hwalk := runs_walk ds _ _ x0 x0 rest hruns (by omega)
  have hlast := fun k (hk : k < rest.length) => runs_last ds _ _ x0 x0 rest k hruns (by omega) hk
  have hpr : p ≤ r + 1 := by omega
  have hpr2 : r + 1 ≤ p := by omega
  have hp1 : 0 < p := by omega
  have hvl := fun k => vfold_len (rest := rest.take k) (x := x0) (y := x0) (a := (m - 1) / 2 ^ tzN m) (l := (n - 1) / 2 ^ tzN m) hxl hxl
  obtain ⟨t, ht⟩ : ∃ t, t = tzN m := ⟨_, rfl⟩
  have htzc := fun w' hL' => tz64_any w' hL' m hm0 hm
  rw [← ht] at hwalk hlast htz htzc hvl
  unfold mfold at hver
  generalize ((ds.zip rest).foldl mstep (x0, x0)) = XY at *
  obtain ⟨X, Y⟩ := XY
  have ha0m : (m - 1) / 2 ^ t < 18446744073709551616 := Nat.lt_of_le_of_lt (Nat.div_le_self _ _) (by omega)
  have hl0m : (n - 1) / 2 ^ t < 18446744073709551616 := Nat.lt_of_le_of_lt (Nat.div_le_self _ _) (by omega)
  obtain ⟨a0, ha0⟩ : ∃ a0, a0 = (m - 1) / 2 ^ t := ⟨_, rfl⟩
  obtain ⟨l0, hl0⟩ : ∃ l0, l0 = (n - 1) / 2 ^ t := ⟨_, rfl⟩
  rw [← ha0] at hwalk hlast ha0m hvl
  rw [← hl0] at hwalk hlast hl0m hvl
  obtain ⟨R, hR⟩ : ∃ R : Int, R = verL m n old now (x0 :: rest) := ⟨_, rfl⟩
  rw [← hR] at hver ⊢
  obtain ⟨z, hz0⟩ : ∃ z, z = m &&& (m - 1) := ⟨_, rfl⟩
  rw [← hz0] at hand hz
  have HLG := hid (fun w' => Long_any w' m n hm hn)
  rw [← hlong] at HLG
  have HLC := hid hL
  have HTZ := hid htzc
  have HVER := hid hver
  have HWALK := hid hwalk
  have HLAST := hid hlast
  have HVL := hid hvl
  have HRL := hid hrl
  have HRK := hid hrk
  have HRR := hid hr
  have HA0 := hid ha0
  have HL0 := hid hl0
  have hp65 : p ≤ 65 := by omega
  have hr65 : r ≤ 65 := by omega
  have HPA := hid hpa
  have HPL := hid hpl
  clear hL htzc hver hwalk hlast hvl hrl hrk hr ha0 hl0 hpa hpl ht hdl hruns hmx hlo hw0 hwh hlong hR hz0 hne
  have hA : Blk ((w.alloc (.cells (kcell m old).toArray tKy)).alloc (.cells (kcell n now).toArray tKy)) w.heap.size tKy (kcell m old).toArray := (Blk.new w _ _).alloc _
  have hB : Blk ((w.alloc (.cells (kcell m old).toArray tKy)).alloc (.cells (kcell n now).toArray tKy)) (w.heap.size + 1) tKy (kcell n now).toArray := by
    have := Blk.new (w.alloc (.cells (kcell m old).toArray tKy)) tKy (kcell n now).toArray
    rwa [World.size_alloc] at this
  have hb0 : Below w.heap.size w ((w.alloc (.cells (kcell m old).toArray tKy)).alloc (.cells (kcell n now).toArray tKy)) := bx_alloc (bx_alloc (Below.refl _ _) _) _
  go_enter Tryd.func16, Tryd.ntmps16
  go_wp2_with fail
  generalize (w.alloc (.cells (kcell m old).toArray tKy)).alloc (.cells (kcell n now).toArray tKy) = w1 at *
  obtain ⟨g3, hg3⟩ : ∃ g3, g3 = w.heap.size := ⟨_, rfl⟩
  obtain ⟨g4, hg4⟩ : ∃ g4, g4 = w.heap.size + 1 := ⟨_, rfl⟩
  rw [← hg4] at hB ⊢
  rw [← hg3] at hA ⊢
  clear hg3 hg4
  refine wp_flow (by kernel_rfl) [0, 1, 0, 4, 3, 31] 5 [false, false, false, false, false, false, false, true, false, false, false, false, false, false, false, false, true, true, true, true] (by kernel_rfl) (by decide) (by kernel_rfl) [FP.eq (.pointer (some ⟨g3, 0, none⟩)), FP.eq (.int .u64 (m : Int)), FP.eq (.pointer (some ⟨g4, 0, none⟩)), FP.eq (.int .u64 (n : Int)), FP.eq (.int .u64 (m : Int))] ?_ ?_
  · refine allFrom_cons ?_ ?_
    · intro a_ w_ hk_
      have h3 : a_.eval (.tmp 3) = .pointer (some ⟨g3, 0, none⟩) := hk_.old 3 (by kernel_rfl)
      have hx_ := hk_.ext
      clear hk_
      refine flow_plain rfl ?_
      unfold gives
      have hc_ : ∀ v, a_.eval (.const v) = v := fun _ => rfl
      have hn_ : ∀ f, a_.eval (.func f) = .func (.func f) #[] #[] := fun _ => rfl
      generalize a_.eval = ρ_ at *
      go_simp
      exact ⟨Below.refl _ _, rfl⟩
    refine allFrom_cons ?_ ?_
    · intro a_ w_ hk_
      have h16 : a_.eval (.tmp 16) = (.pointer (some ⟨g3, 0, none⟩)) := hk_.got 0 16 _ (by kernel_rfl) rfl rfl
      have hx_ := hk_.ext
      clear hk_
      refine flow_plain rfl ?_
      unfold gives
      have hc_ : ∀ v, a_.eval (.const v) = v := fun _ => rfl
      have hn_ : ∀ f, a_.eval (.func f) = .func (.func f) #[] #[] := fun _ => rfl
      have hcell := kcell_size (hA.below hx_ hA.lt)
      generalize a_.eval = ρ_ at *
      go_simp
      exact ⟨Below.refl _ _, rfl⟩
    refine allFrom_cons ?_ ?_
    · intro a_ w_ hk_
      have h4 : a_.eval (.tmp 4) = .pointer (some ⟨g4, 0, none⟩) := hk_.old 4 (by kernel_rfl)
      have hx_ := hk_.ext
      clear hk_
      refine flow_plain rfl ?_
      unfold gives
      have hc_ : ∀ v, a_.eval (.const v) = v := fun _ => rfl
      have hn_ : ∀ f, a_.eval (.func f) = .func (.func f) #[] #[] := fun _ => rfl
      generalize a_.eval = ρ_ at *
      go_simp
      exact ⟨Below.refl _ _, rfl⟩
    refine allFrom_cons ?_ ?_
    · intro a_ w_ hk_
      have h18 : a_.eval (.tmp 18) = (.pointer (some ⟨g4, 0, none⟩)) := hk_.got 2 18 _ (by kernel_rfl) rfl rfl
      have hx_ := hk_.ext
      clear hk_
      refine flow_plain rfl ?_
      unfold gives
      have hc_ : ∀ v, a_.eval (.const v) = v := fun _ => rfl
      have hn_ : ∀ f, a_.eval (.func f) = .func (.func f) #[] #[] := fun _ => rfl
      have hcell := kcell_size (hB.below hx_ hB.lt)
      generalize a_.eval = ρ_ at *
      go_simp
      exact ⟨Below.refl _ _, rfl⟩
    refine allFrom_cons ?_ ?_
    · intro a_ w_ hk_
      have h17 : a_.eval (.tmp 17) = (.int .u64 (m : Int)) := hk_.got 1 17 _ (by kernel_rfl) rfl rfl
      have hx_ := hk_.ext
      clear hk_
      refine flow_plain rfl ?_
      exact gives_assign rfl ⟨Below.refl _ _, h17⟩
    exact allFrom_nil
  intro f_ w_ hx_ hf_
  have h16 : f_ 16 = (.pointer (some ⟨g3, 0, none⟩)) := hf_ 0 16 _ (by decide) rfl rfl
  have h17 : f_ 17 = (.int .u64 (m : Int)) := hf_ 1 17 _ (by decide) rfl rfl
  have h18 : f_ 18 = (.pointer (some ⟨g4, 0, none⟩)) := hf_ 2 18 _ (by decide) rfl rfl
  have h19 : f_ 19 = (.int .u64 (n : Int)) := hf_ 3 19 _ (by decide) rfl rfl
  have h7 : f_ 7 = (.int .u64 (m : Int)) := hf_ 4 7 _ (by decide) rfl rfl
  simp only [mix, List.drop_succ_cons, List.drop_zero, h16, h17, h18, h19, h7]
  clear h16 h17 h18 h19 h7
  clear hf_
  have hA1 := hA.below hx_ hA.lt
  have hB1 := hB.below hx_ hB.lt
  have hb1 := bx_trans hb0 hx_
  clear hA hB hb0 hx_
  have hA2 := hA1
  have hB2 := hB1
  clear hA1 hB1
  go_wp2_with fail
  refine (HLG.out w_).mono ?_
  rintro e wa ⟨rfl, hba⟩
  have hA3 := hA2.below hba hA2.lt
  have hB3 := hB2.below hba hB2.lt
  have hbw := bx_trans hb1 hba
  clear hA2 hB2 hb1 hba
  have hA2 := hA3
  have hB2 := hB3
  clear hA3 hB3
  have hznz : ((z : Int) == 0) = false := by simpa using hz
  obtain ⟨b, off, hAb, hbB, hd0⟩ : ∃ b off, A = some ⟨b, off, none⟩ ∧ b < w.heap.size ∧ True := by
    have h0 := HPA.out x0 List.mem_cons_self
    have hk : 0 < (((x0 :: rest).flatten).map cb).length := by rw [List.length_map, List.flatten_cons, List.length_append]; omega
    obtain ⟨b, off, e1, e2, _⟩ := HRR.out.at_ hk
    exact ⟨b, off, e1, e2, trivial⟩
  subst hAb
  have hrd := HRR.out.below hbw
  have hrB := hbw.size

  have HAA := hid hA2
  have HBB := hid hB2
  have HRD := hid hrd
  have HBW := hid hbw
  clear hA2 hB2 hrd hbw
  go_wp2_with fail
  refine (HTZ.out wa (HLC.out.below HBW.out)).mono ?_
  rintro e w6 ⟨rfl, rfl⟩
  go_wp2_with fail
  refine wp_flow (by kernel_rfl) [0, 1, 0, 7, 0, 16, 0, 112, 15, 511] 9 [false, false, false, false, false, false, false, false, false, false, true, false, false, false, false, false, false, false, false, false, false, false, false, false, false, false, false, false, false, false, false, false, false, false, false, false, false, false, false, false, false, false, false, false, false, false, false, false, false, false, false, false, false, false, false, false, false, false, false, false, false, false, false, false, false, false, true, true, true, true, true, true, true, true] (by kernel_rfl) (by decide) (by kernel_rfl) [FP.eq (.int .u64 (m : Int)), FP.eq (.int .u64 ((m - 1 : Nat) : Int)), FP.eq (.int .i64 (t : Int)), FP.eq (.int .u64 ((a0 : Nat) : Int)), FP.eq (.int .u64 (n : Int)), FP.eq (.int .u64 ((n - 1 : Nat) : Int)), FP.eq (.int .i64 (t : Int)), FP.eq (.int .u64 ((l0 : Nat) : Int)), FP.eq (.int .u64 ((a0 : Nat) : Int))] ?_ ?_
  · refine allFrom_cons ?_ ?_
    · intro a_ w_ hk_
      have h7 : a_.eval (.tmp 7) = .int .u64 (m : Int) := hk_.old 7 (by kernel_rfl)
      have hx_ := hk_.ext
      clear hk_
      refine flow_plain rfl ?_
      exact gives_move rfl ⟨Below.refl _ _, h7⟩
    refine allFrom_cons ?_ ?_
    · intro a_ w_ hk_
      have h66 : a_.eval (.tmp 66) = (.int .u64 (m : Int)) := hk_.got 0 66 _ (by kernel_rfl) rfl rfl
      have hx_ := hk_.ext
      clear hk_
      refine flow_plain rfl ?_
      unfold gives
      have hc_ : ∀ v, a_.eval (.const v) = v := fun _ => rfl
      have hn_ : ∀ f, a_.eval (.func f) = .func (.func f) #[] #[] := fun _ => rfl
      generalize a_.eval = ρ_ at *
      go_simp
      exact ⟨Below.refl _ _, congrArg (Value.int _) (u64_pred h1 hm)⟩
    refine allFrom_cons ?_ ?_
    · intro a_ w_ hk_
      have h9 : a_.eval (.tmp 9) = .int .i64 (t : Int) := hk_.old 9 (by kernel_rfl)
      have hx_ := hk_.ext
      clear hk_
      refine flow_plain rfl ?_
      exact gives_move rfl ⟨Below.refl _ _, h9⟩
    refine allFrom_cons ?_ ?_
    · intro a_ w_ hk_
      have h67 : a_.eval (.tmp 67) = (.int .u64 ((m - 1 : Nat) : Int)) := hk_.got 1 67 _ (by kernel_rfl) rfl rfl
      have h68 : a_.eval (.tmp 68) = (.int .i64 (t : Int)) := hk_.got 2 68 _ (by kernel_rfl) rfl rfl
      have hx_ := hk_.ext
      clear hk_
      refine flow_plain rfl ?_
      unfold gives
      have hc_ : ∀ v, a_.eval (.const v) = v := fun _ => rfl
      have hn_ : ∀ f, a_.eval (.func f) = .func (.func f) #[] #[] := fun _ => rfl
      generalize a_.eval = ρ_ at *
      go_simp
      exact ⟨Below.refl _ _, congrArg (Value.int _) (by rw [HA0.out]; simp)⟩
    refine allFrom_cons ?_ ?_
    · intro a_ w_ hk_
      have h8 : a_.eval (.tmp 8) = .int .u64 (n : Int) := hk_.old 8 (by kernel_rfl)
      have hx_ := hk_.ext
      clear hk_
      refine flow_plain rfl ?_
      exact gives_move rfl ⟨Below.refl _ _, h8⟩
    refine allFrom_cons ?_ ?_
    · intro a_ w_ hk_
      have h70 : a_.eval (.tmp 70) = (.int .u64 (n : Int)) := hk_.got 4 70 _ (by kernel_rfl) rfl rfl
      have hx_ := hk_.ext
      clear hk_
      refine flow_plain rfl ?_
      unfold gives
      have hc_ : ∀ v, a_.eval (.const v) = v := fun _ => rfl
      have hn_ : ∀ f, a_.eval (.func f) = .func (.func f) #[] #[] := fun _ => rfl
      generalize a_.eval = ρ_ at *
      go_simp
      exact ⟨Below.refl _ _, congrArg (Value.int _) (u64_pred (by omega) hn)⟩
    refine allFrom_cons ?_ ?_
    · intro a_ w_ hk_
      have h9 : a_.eval (.tmp 9) = .int .i64 (t : Int) := hk_.old 9 (by kernel_rfl)
      have hx_ := hk_.ext
      clear hk_
      refine flow_plain rfl ?_
      exact gives_move rfl ⟨Below.refl _ _, h9⟩
    refine allFrom_cons ?_ ?_
    · intro a_ w_ hk_
      have h71 : a_.eval (.tmp 71) = (.int .u64 ((n - 1 : Nat) : Int)) := hk_.got 5 71 _ (by kernel_rfl) rfl rfl
      have h72 : a_.eval (.tmp 72) = (.int .i64 (t : Int)) := hk_.got 6 72 _ (by kernel_rfl) rfl rfl
      have hx_ := hk_.ext
      clear hk_
      refine flow_plain rfl ?_
      unfold gives
      have hc_ : ∀ v, a_.eval (.const v) = v := fun _ => rfl
      have hn_ : ∀ f, a_.eval (.func f) = .func (.func f) #[] #[] := fun _ => rfl
      generalize a_.eval = ρ_ at *
      go_simp
      exact ⟨Below.refl _ _, congrArg (Value.int _) (by rw [HL0.out]; simp)⟩
    refine allFrom_cons ?_ ?_
    · intro a_ w_ hk_
      have h69 : a_.eval (.tmp 69) = (.int .u64 ((a0 : Nat) : Int)) := hk_.got 3 69 _ (by kernel_rfl) rfl rfl
      have hx_ := hk_.ext
      clear hk_
      refine flow_plain rfl ?_
      exact gives_assign rfl ⟨Below.refl _ _, h69⟩
    exact allFrom_nil
  intro f_ w_ hx_ hf_
  have h66 : f_ 66 = (.int .u64 (m : Int)) := hf_ 0 66 _ (by decide) rfl rfl
  have h67 : f_ 67 = (.int .u64 ((m - 1 : Nat) : Int)) := hf_ 1 67 _ (by decide) rfl rfl
  have h68 : f_ 68 = (.int .i64 (t : Int)) := hf_ 2 68 _ (by decide) rfl rfl
  have h69 : f_ 69 = (.int .u64 ((a0 : Nat) : Int)) := hf_ 3 69 _ (by decide) rfl rfl
  have h70 : f_ 70 = (.int .u64 (n : Int)) := hf_ 4 70 _ (by decide) rfl rfl
  have h71 : f_ 71 = (.int .u64 ((n - 1 : Nat) : Int)) := hf_ 5 71 _ (by decide) rfl rfl
  have h72 : f_ 72 = (.int .i64 (t : Int)) := hf_ 6 72 _ (by decide) rfl rfl
  have h73 : f_ 73 = (.int .u64 ((l0 : Nat) : Int)) := hf_ 7 73 _ (by decide) rfl rfl
  have h10 : f_ 10 = (.int .u64 ((a0 : Nat) : Int)) := hf_ 8 10 _ (by decide) rfl rfl
  simp only [mix, List.drop_succ_cons, List.drop_zero, h66, h67, h68, h69, h70, h71, h72, h73, h10]
  clear h66 h67 h68 h69 h70 h71 h72 h73 h10
  clear hf_
  rename World => wb
  have hbb := bx_trans HBW.out hx_
  have hAc := HAA.out.below hx_ HAA.out.lt
  have hBc := HBB.out.below hx_ HBB.out.lt
  have hRc := HRD.out.below (hx_.mono hrB)
  have hrB2 := Nat.le_trans hrB hx_.size
  clear hx_ HAA HBB HRD HBW hrB
  obtain ⟨hbl, hp0⟩ := rd_hash hRc (ls := x0 :: rest) HPA.out 0 (by simp)
  rw [List.getElem_cons_zero, Nat.zero_mul, Nat.add_zero] at hp0
  have HP0 := hid hp0
  have HRD := hid hRc
  have HAA := hid hAc
  have HBB := hid hBc
  have HBW := hid hbb
  clear hp0 hRc hAc hBc hbb
  have hblw : b < wb.heap.size := by omega
  have hax := aggHL hxl
  go_wp2_with fail
  refine wp_flowK (by kernel_rfl) [0, 1, 3, 0, 8, 24, 0, 0, 199, 511] 9 [false, false, false, false, false, false, false, false, false, false, false, false, true, true, false, false, false, false, false, false, false, false, false, false, false, false, false, false, false, false, false, false, false, false, false, false, false, false, false, false, false, false, false, false, false, false, false, false, false, false, false, false, false, false, false, false, false, false, false, false, false, false, false, false, false, false, false, false, false, false, false, false, false, false, true, true, true, true, true, true] (by kernel_rfl) (by decide) (by kernel_rfl) [KP.eq (.slice (some ⟨b, off, none⟩) p c), KP.eq (.pointer (some ⟨b, off, none⟩)), KP.eq (.agg (x0.map cb).toArray), KP.eq (.slice (some ⟨b, off, none⟩) p c), KP.eq (.pointer (some ⟨b, off, none⟩)), KP.eq (.agg (x0.map cb).toArray), KP.any, KP.any, KP.any] [6, 7, 8] (fun ks w' => TwoK wb (x0.map cb).toArray (Value.agg (List.replicate 32 (cb 0)).toArray).cells ks w') ?_ ?_ ?_
  · simp only [List.map_cons, List.map_nil]
    exact TwoK.start
  · refine allFrom_cons ?_ ?_
    · refine stepK_by (by decide) ?_
      intro f_ a_ w_ hM_ hk_
      have h2 : a_.eval (.tmp 2) = .slice (some ⟨b, off, none⟩) p c := hk_.old 2 (by kernel_rfl)
      have k8 := hk_.later 8 _ (by kernel_rfl) rfl
      clear hk_
      refine flow_plain rfl ?_
      exact gives_move rfl ⟨hM_, h2⟩
    refine allFrom_cons ?_ ?_
    · refine stepK_by (by decide) ?_
      intro f_ a_ w_ hM_ hk_
      have h74 : a_.eval (.tmp 74) = (.slice (some ⟨b, off, none⟩) p c) := hk_.got 0 74 _ (by kernel_rfl) rfl rfl
      have k8 := hk_.later 8 _ (by kernel_rfl) rfl
      clear hk_
      refine flow_plain rfl ?_
      refine gives_keep hM_ ?_
      unfold gives
      have hc_ : ∀ v, a_.eval (.const v) = v := fun _ => rfl
      have hn_ : ∀ f, a_.eval (.func f) = .func (.func f) #[] #[] := fun _ => rfl
      generalize a_.eval = ρ_ at *
      go_simp
      exact ⟨rfl, rfl⟩
    refine allFrom_cons ?_ ?_
    · refine stepK_by (by decide) ?_
      intro f_ a_ w_ hM_ hk_
      have h75 : a_.eval (.tmp 75) = (.pointer (some ⟨b, off, none⟩)) := hk_.got 1 75 _ (by kernel_rfl) rfl rfl
      have k8 := hk_.later 8 _ (by kernel_rfl) rfl
      clear hk_
      refine flow_plain rfl ?_
      have hM := hM_
      simp only [List.map_cons, List.map_nil, k8] at hM
      have hbw_ : Below wb.heap.size wb w_ := hM.1
      exact gives_ldC rfl h75 hax (fun j v hv => (hbw_.cell (p := ⟨b, off + j, none⟩) hblw).trans (HP0.out j v hv)) ⟨hM_, rfl⟩
    refine allFrom_cons ?_ ?_
    · refine stepK_by (by decide) ?_
      intro f_ a_ w_ hM_ hk_
      have h2 : a_.eval (.tmp 2) = .slice (some ⟨b, off, none⟩) p c := hk_.old 2 (by kernel_rfl)
      clear hk_
      refine flow_plain rfl ?_
      exact gives_move rfl ⟨hM_, h2⟩
    refine allFrom_cons ?_ ?_
    · refine stepK_by (by decide) ?_
      intro f_ a_ w_ hM_ hk_
      have h77 : a_.eval (.tmp 77) = (.slice (some ⟨b, off, none⟩) p c) := hk_.got 3 77 _ (by kernel_rfl) rfl rfl
      clear hk_
      refine flow_plain rfl ?_
      refine gives_keep hM_ ?_
      unfold gives
      have hc_ : ∀ v, a_.eval (.const v) = v := fun _ => rfl
      have hn_ : ∀ f, a_.eval (.func f) = .func (.func f) #[] #[] := fun _ => rfl
      generalize a_.eval = ρ_ at *
      go_simp
      exact ⟨rfl, rfl⟩
    refine allFrom_cons ?_ ?_
    · refine stepK_by (by decide) ?_
      intro f_ a_ w_ hM_ hk_
      have h78 : a_.eval (.tmp 78) = (.pointer (some ⟨b, off, none⟩)) := hk_.got 4 78 _ (by kernel_rfl) rfl rfl
      clear hk_
      refine flow_plain rfl ?_
      have hM := hM_
      simp only [List.map_cons, List.map_nil] at hM
      have hbw_ : Below wb.heap.size wb w_ := hM.1
      exact gives_ldC rfl h78 hax (fun j v hv => (hbw_.cell (p := ⟨b, off + j, none⟩) hblw).trans (HP0.out j v hv)) ⟨hM_, rfl⟩
    refine allFrom_cons ?_ ?_
    · intro f_ a_ w_ hM_ hk_
      have k6 : f_ 6 = none := hk_.un
      have k8 := hk_.later 8 _ (by kernel_rfl) rfl
      clear hk_
      simp only [List.map_cons, List.map_nil, k6, k8] at hM_
      simp only [List.map_cons, List.map_nil, upd_same, upd_ne f_ _ (show (7 : Nat) ≠ 6 by decide), upd_ne f_ _ (show (8 : Nat) ≠ 6 by decide), k8]
      refine flow_plain rfl ?_
      exact gives_val (gives_alloc_run _ rfl zeroH) ⟨TwoK.six hM_, trivial⟩
    refine allFrom_cons ?_ ?_
    · intro f_ a_ w_ hM_ hk_
      have k7 : f_ 7 = none := hk_.un
      have k8 := hk_.later 8 _ (by kernel_rfl) rfl
      clear hk_
      simp only [List.map_cons, List.map_nil, k7, k8] at hM_
      simp only [List.map_cons, List.map_nil, upd_same, upd_ne f_ _ (show (6 : Nat) ≠ 7 by decide), upd_ne f_ _ (show (8 : Nat) ≠ 7 by decide), k8]
      refine flow_plain rfl ?_
      exact gives_val (gives_alloc_run _ rfl zeroH) ⟨TwoK.seven hM_, trivial⟩
    refine allFrom_cons ?_ ?_
    · intro f_ a_ w_ hM_ hk_
      have h76 : a_.eval (.tmp 76) = (.agg (x0.map cb).toArray) := hk_.got 2 76 _ (by kernel_rfl) rfl rfl
      have k6 := hk_.val 6 12 _ (by kernel_rfl) rfl rfl
      have k7 := hk_.val 7 13 _ (by kernel_rfl) rfl rfl
      have k8 : f_ 8 = none := hk_.un
      clear hk_
      simp only [List.map_cons, List.map_nil, k6, k7, k8] at hM_
      simp only [List.map_cons, List.map_nil, upd_same, upd_ne f_ _ (show (6 : Nat) ≠ 8 by decide), upd_ne f_ _ (show (7 : Nat) ≠ 8 by decide), k6, k7]
      refine flow_plain rfl ?_
      obtain ⟨g6, e6, hb6⟩ := hM_.at6
      rw [e6] at k6
      exact gives_store_agg rfl e6 h76 (aggHS hxl) hb6 (szH hxl) (one_cbA x0) (fun w1 hp1 => ⟨by rw [e6] at hM_ ⊢; rw [splH hxl] at hp1; exact hM_.eight hp1, trivial⟩)
    exact allFrom_nil
  intro f_ y_ w_ hM_ hf_ hd_
  have h74 : f_ 74 = (.slice (some ⟨b, off, none⟩) p c) := (hf_ 0 74 _ (by decide) rfl rfl).1
  have h75 : f_ 75 = (.pointer (some ⟨b, off, none⟩)) := (hf_ 1 75 _ (by decide) rfl rfl).1
  have h76 : f_ 76 = (.agg (x0.map cb).toArray) := (hf_ 2 76 _ (by decide) rfl rfl).1
  have h77 : f_ 77 = (.slice (some ⟨b, off, none⟩) p c) := (hf_ 3 77 _ (by decide) rfl rfl).1
  have h78 : f_ 78 = (.pointer (some ⟨b, off, none⟩)) := (hf_ 4 78 _ (by decide) rfl rfl).1
  have h79 : f_ 79 = (.agg (x0.map cb).toArray) := (hf_ 5 79 _ (by decide) rfl rfl).1
  have k6 := (hf_ 6 12 _ (by decide) rfl rfl).2
  have k7 := (hf_ 7 13 _ (by decide) rfl rfl).2
  obtain ⟨x8, k8⟩ := hd_ 8 (by decide)
  simp only [List.map_cons, List.map_nil, k6, k7, k8] at hM_
  simp only [mix, List.drop_succ_cons, List.drop_zero, h74, h75, h76, h77, h78, h79]
  clear hf_ hd_ h74 h75 h76 h77 h78 h79 k6 k7 k8
  obtain ⟨g12, g13, e6, e7, hg12, hg13, hne, hbx, hby, hbw2⟩ := TwoK.done hM_
  rename World => wc
  simp only [e6, e7]
  clear hM_
  go_wp2_with ((with_reducible refine wpAtC ?_); refine wpList_store_agg rfl _ _ _ rfl _ _ rfl (x0.map cb).toArray rfl (aggHS hxl) hby (szH hxl) (one_cbA x0) ?_; intro wd hput; simp only [Act.put])
  rw [splH hxl] at hput
  have hb12 := hput.other hbx hne
  have hb13 := hput.blk
  have hbd := hbw2.trans (hput.below hg13)
  clear hput hbx hby hbw2
  have hxl2 := hxl
  clear hxl hax
  go_loopw [10, 11, 87] (fun v10 v11 v87 wr => VRel rest x0 a0 l0 r g12 g13 wb v10 v11 v87 wr) (fun _ _ v87 _ => r - (intOf v87).toNat)
  case atStart => exact ⟨0, x0, x0, a0, l0, by omega, by rw [List.take_zero]; rfl, rfl, rfl, rfl, hb12, hb13, hbd, ha0m, hl0m⟩
  case round =>
    obtain ⟨j, xs, ys, a, l, hj, hst, rfl, rfl, rfl, hb12r, hb13r, hbr, ham, hlm⟩ := hrel
    clear hb12 hb13 hbd ha0m hl0m
    have hvl := HVL.out j
    rw [← hst] at hvl
    obtain ⟨hxs, hys⟩ := hvl
    simp only [] at hxs hys
    by_cases hlt : j < r
    · have hla := HLAST.out j (by rw [HRL.out]; exact hlt)
      rw [← hst] at hla
      simp only [] at hla
      have hjr : j < rest.length := by rw [HRL.out]; exact hlt
      have htk : (rest.take (j + 1)).foldl vstep (x0, x0, a0, l0) = vstep (xs, ys, a, l) rest[j] := by
        rw [List.take_succ_eq_append_getElem hjr, List.foldl_append, ← hst]
        rfl
      have hhl := HRK.out _ (List.getElem_mem hjr)
      obtain ⟨_, hpc⟩ := rd_hash HRD.out (ls := x0 :: rest) HPA.out (j + 1) (by simp; exact hjr)
      rw [List.getElem_cons_succ] at hpc
      have hcr := fun k v hv => (hbr.cell (p := ⟨b, off + (j + 1) * 32 + k, none⟩) hblw).trans (hpc k v hv)
      have hof : off + (j + 1) * 32 = off + 32 + j * 32 := by omega
      rw [hof] at hcr
      generalize rest[j] = h at *
      clear hpc hof hjr
      have HST := hid htk
      have HS0 := hid hst
      clear htk hst
      have hab := and1_u64 ham
      have hlne : ((l : Int) == 0) = false := by simp; omega
      have hjp : j < p - 1 := by omega
      have hah := aggHL hhl
      rename World => wo
      by_cases hd : a % 2 = 1 ∨ a = l
      · have ha0 : 0 < a := by omega
        have hvs : vstep (xs, ys, a, l) h = (nodeL h xs, nodeL h ys, (evs a l).1 / 2, (evs a l).2 / 2) := by
          have hs1 : stp a l = (false, (evs a l).1 / 2, (evs a l).2 / 2) := by unfold stp; rw [if_pos hd]
          unfold vstep
          simp only [hs1]
          rfl
        rw [hvs] at HST
        have hg13w := hb13r.lt
        have hax := aggHL hxs
        have hay := aggHL hys
        have HHC := hid hcr
        clear hvs
        have hty : ((a % 2 : Nat) : Int) = 1 ∧ True ∨ ((a % 2 : Nat) : Int) = 0 ∧ ((a : Int) == (l : Int)) = true := by
          rcases Nat.mod_two_eq_zero_or_one a with h0 | h0
          · right
            refine ⟨by omega, ?_⟩
            rw [show a = l by omega]
            simp
          · left
            exact ⟨by omega, trivial⟩
        rcases hty with ⟨hm2, hal⟩ | ⟨hm2, hal⟩
        all_goals
          rw [hm2] at hab
          clear hm2 hd hla
          go_wp2_with (first
            | ((with_reducible refine wpAtC ?_); refine wpList_loadG rfl _ _ rfl _ _ rfl (h.map cb) hah hcr ?_; simp only [Act.put, List.setIfInBounds_toArray, List.set_cons_succ, List.set_cons_zero])
            | ((with_reducible refine wpAtC ?_); refine wpList_alloc rfl _ rfl zeroH ?_; intro g15 w15 hg15 hg15' hz15 hb15; simp only [Act.put, List.setIfInBounds_toArray, List.set_cons_succ, List.set_cons_zero])
            | ((with_reducible refine wpAtC ?_); refine wpList_store_agg rfl _ _ _ rfl _ _ rfl (h.map cb).toArray rfl (aggHS hhl) hz15 (szH hhl) (one_cbA h) ?_; intro w16 hp16; simp only [Act.put]; rw [splH hhl] at hp16; have hy16 := hp16.other (hb13r.below hb15 hg13w) (by omega); have hh16 := hp16.blk; have hx16 := hp16.other (hb12r.below hb15 hb12r.lt) (by have := hb12r.lt; omega); have hb16 := (hbr.trans (hb15.mono hbr.size)).trans (hp16.below (Nat.le_trans hbr.size hg15))))
          clear hab hal
          refine wp_flow (by kernel_rfl) [0, 0, 3, 0, 0, 31, 63, 127] 6 [false, false, false, false, false, false, false, false, false, false, false, false, false, false, false, false, false, false, false, false, false, false, false, false, false, false, false, false, false, false, false, false, false, false, false, false, false, false, false, false, false, false, false, false, false, false, false, false, false, false, false, false, false, false, false, false, false, false, false, false, false, false, false, false, false, false, false, false, false, false, false, false, false, false, false, false, false, false, false, false, false, false, false, false, false, false, false, false, false, false, false, false, false, false, false, false, false, false, false, false, false, true, true, true, true, true, true] (by kernel_rfl) (by decide) (by kernel_rfl) [FP.eq (.agg (h.map cb).toArray), FP.eq (.agg (xs.map cb).toArray), FP.eq (.agg ((nodeL h xs).map cb).toArray), FP.eq (.agg (h.map cb).toArray), FP.eq (.agg (ys.map cb).toArray), FP.eq (.agg ((nodeL h ys).map cb).toArray)] ?_ ?_
          · refine allFrom_cons ?_ ?_
            · intro a_ w_ hk_
              have h15 : a_.eval (.tmp 15) = .pointer (some ⟨g15, 0, none⟩) := hk_.old 15 (by kernel_rfl)
              have hx_ := hk_.ext
              clear hk_
              refine flow_plain rfl ?_
              exact gives_ldC rfl h15 hah (blk_cells (hh16.below hx_ hh16.lt)) ⟨Below.refl _ _, rfl⟩
            refine allFrom_cons ?_ ?_
            · intro a_ w_ hk_
              have h12 : a_.eval (.tmp 12) = .pointer (some ⟨g12, 0, none⟩) := hk_.old 12 (by kernel_rfl)
              have hx_ := hk_.ext
              clear hk_
              refine flow_plain rfl ?_
              exact gives_ldC rfl h12 hax (blk_cells (hx16.below hx_ hx16.lt)) ⟨Below.refl _ _, rfl⟩
            refine allFrom_cons ?_ ?_
            · intro a_ w_ hk_
              have h101 : a_.eval (.tmp 101) = (.agg (h.map cb).toArray) := hk_.got 0 101 _ (by kernel_rfl) rfl rfl
              have h102 : a_.eval (.tmp 102) = (.agg (xs.map cb).toArray) := hk_.got 1 102 _ (by kernel_rfl) rfl rfl
              have hx_ := hk_.ext
              clear hk_
              refine flow_plain rfl ?_
              unfold gives
              have hc_ : ∀ v, a_.eval (.const v) = v := fun _ => rfl
              have hn_ : ∀ f, a_.eval (.func f) = .func (.func f) #[] #[] := fun _ => rfl
              generalize a_.eval = ρ_ at *
              go_simp
              exact (Node_any w_ (HLC.out.sha.below (bx_trans HBW.out (hb16.trans (hx_.mono hb16.size)))) hhl hxs).mono fun e w' hh => ⟨_, hh.1, hh.2, rfl⟩
            refine allFrom_cons ?_ ?_
            · intro a_ w_ hk_
              have h15 : a_.eval (.tmp 15) = .pointer (some ⟨g15, 0, none⟩) := hk_.old 15 (by kernel_rfl)
              have hx_ := hk_.ext
              clear hk_
              refine flow_plain rfl ?_
              exact gives_ldC rfl h15 hah (blk_cells (hh16.below hx_ hh16.lt)) ⟨Below.refl _ _, rfl⟩
            refine allFrom_cons ?_ ?_
            · intro a_ w_ hk_
              have h13 : a_.eval (.tmp 13) = .pointer (some ⟨g13, 0, none⟩) := hk_.old 13 (by kernel_rfl)
              have hx_ := hk_.ext
              clear hk_
              refine flow_plain rfl ?_
              exact gives_ldC rfl h13 hay (blk_cells (hy16.below hx_ hy16.lt)) ⟨Below.refl _ _, rfl⟩
            refine allFrom_cons ?_ ?_
            · intro a_ w_ hk_
              have h104 : a_.eval (.tmp 104) = (.agg (h.map cb).toArray) := hk_.got 3 104 _ (by kernel_rfl) rfl rfl
              have h105 : a_.eval (.tmp 105) = (.agg (ys.map cb).toArray) := hk_.got 4 105 _ (by kernel_rfl) rfl rfl
              have hx_ := hk_.ext
              clear hk_
              refine flow_plain rfl ?_
              unfold gives
              have hc_ : ∀ v, a_.eval (.const v) = v := fun _ => rfl
              have hn_ : ∀ f, a_.eval (.func f) = .func (.func f) #[] #[] := fun _ => rfl
              generalize a_.eval = ρ_ at *
              go_simp
              exact (Node_any w_ (HLC.out.sha.below (bx_trans HBW.out (hb16.trans (hx_.mono hb16.size)))) hhl hys).mono fun e w' hh => ⟨_, hh.1, hh.2, rfl⟩
            exact allFrom_nil
          intro f_ w_ hx_ hf_
          have h101 : f_ 101 = (.agg (h.map cb).toArray) := hf_ 0 101 _ (by decide) rfl rfl
          have h102 : f_ 102 = (.agg (xs.map cb).toArray) := hf_ 1 102 _ (by decide) rfl rfl
          have h103 : f_ 103 = (.agg ((nodeL h xs).map cb).toArray) := hf_ 2 103 _ (by decide) rfl rfl
          have h104 : f_ 104 = (.agg (h.map cb).toArray) := hf_ 3 104 _ (by decide) rfl rfl
          have h105 : f_ 105 = (.agg (ys.map cb).toArray) := hf_ 4 105 _ (by decide) rfl rfl
          have h106 : f_ 106 = (.agg ((nodeL h ys).map cb).toArray) := hf_ 5 106 _ (by decide) rfl rfl
          simp only [mix, List.drop_succ_cons, List.drop_zero, h101, h102, h103, h104, h105, h106]
          clear h101 h102 h103 h104 h105 h106
          clear hf_
          rename World => w17
          have hx17 := hx16.below hx_ hx16.lt
          have hy17 := hy16.below hx_ hy16.lt
          have hb017 := hb16.trans (hx_.mono hb16.size)
          have hnx := nodeL_len h xs
          have hny := nodeL_len h ys
          clear hx16 hy16 hh16 hb16 hx_ hp16 hz15 hb15 hcr hb12r hb13r hbr hah hay hax
          generalize nodeL h xs = N1 at *
          generalize nodeL h ys = N2 at *
          go_wp2_with (first
            | ((with_reducible refine wpAtC ?_); refine wpList_store_agg rfl _ _ _ rfl _ _ rfl (N1.map cb).toArray rfl (aggHS hnx) hx17 (by rw [List.size_toArray, List.size_toArray, List.length_map, List.length_map]; omega) (one_cbA N1) ?_; intro w18 hp18; simp only [Act.put]; rw [show spl (xs.map cb).toArray 0 (N1.map cb).toArray.toList = (N1.map cb).toArray from spl_whole (by rw [List.size_toArray, List.size_toArray, List.length_map, List.length_map]; omega)] at hp18; have hy18 := hp18.other hy17 (by omega))
            | ((with_reducible refine wpAtC ?_); refine wpList_store_agg rfl _ _ _ rfl _ _ rfl (N2.map cb).toArray rfl (aggHS hny) hy18 (by rw [List.size_toArray, List.size_toArray, List.length_map, List.length_map]; omega) (one_cbA N2) ?_; intro w19 hp19; simp only [Act.put]; rw [show spl (ys.map cb).toArray 0 (N2.map cb).toArray.toList = (N2.map cb).toArray from spl_whole (by rw [List.size_toArray, List.size_toArray, List.length_map, List.length_map]; omega)] at hp19; have hx19 := hp19.other hp18.blk hne; have hy19 := hp19.blk; have hb019 := (hb017.trans (hp18.below hg12)).trans (hp19.below hg13)))
          clear hx17 hy17 hb017 hp18 hp19 hy18
          go_loop [10, 11] (fun v10 v11 => ERel a l v10 v11) (fun v10 _ => (intOf v10).toNat)
          case atStart => exact ⟨a, l, rfl, rfl, ha0, Nat.le_refl _, Nat.le_refl _, rfl⟩
          case round =>
            obtain ⟨a1, l1, rfl, rfl, h1p, h1a, h1l, hev⟩ := hrel
            have HEV := hid hev
            clear hev
            have hab1 := and1_u64 (Nat.lt_of_le_of_lt h1a ham)
            rcases Nat.mod_two_eq_zero_or_one a1 with h0 | h0
            · have he := evs_yes (a := a1) (l := l1) ⟨h0, h1p⟩
              have HE := hid he
              have h0' : 1 ≤ a1 / 2 := by omega
              rw [h0] at hab1
              clear he h0
              go_wp2
              go_round
              case rel => exact ⟨a1 / 2, l1 / 2, by simp, by simp, by omega, by omega, by omega, by rw [← HE.out]; exact HEV.out⟩
              case measure => simp [intOf]; omega
            · have he := evs_no (a := a1) (l := l1) (by omega)
              have HE := hid he
              rw [h0] at hab1
              clear he h0
              go_wp2
              go_roundw
              case rel => exact ⟨j + 1, N1, N2, a1 / 2, l1 / 2, by omega, by rw [HST.out, ← HEV.out, HE.out], by simp, by simp, by go_num, hx19, hy19, hb019, by omega, by omega⟩
              case measure => simp [intOf]; omega
      · have ha2 : a % 2 = 0 := by omega
        have hal : ((a : Int) == (l : Int)) = false := by simp; omega
        have hvs : vstep (xs, ys, a, l) h = (xs, nodeL ys h, a / 2, l / 2) := by
          unfold vstep
          simp only [stp_right ha2 (by omega : a ≠ l)]
          rfl
        rw [hvs] at HST
        rw [ha2] at hab
        clear hd hla ha2 hvs
        have hg13w := hb13r.lt
        have hay := aggHL hys
        have HHC := hid hcr
        go_wp2_with (first
          | ((with_reducible refine wpAtC ?_); refine wpList_loadG rfl _ _ rfl _ _ rfl (h.map cb) hah hcr ?_; simp only [Act.put, List.setIfInBounds_toArray, List.set_cons_succ, List.set_cons_zero])
          | ((with_reducible refine wpAtC ?_); refine wpList_alloc rfl _ rfl zeroH ?_; intro g15 w15 hg15 hg15' hz15 hb15; simp only [Act.put, List.setIfInBounds_toArray, List.set_cons_succ, List.set_cons_zero])
          | ((with_reducible refine wpAtC ?_); refine wpList_store_agg rfl _ _ _ rfl _ _ rfl (h.map cb).toArray rfl (aggHS hhl) hz15 (szH hhl) (one_cbA h) ?_; intro w16 hp16; simp only [Act.put]; rw [splH hhl] at hp16; have hy16 := hp16.other (hb13r.below hb15 hg13w) (by omega); have hh16 := hp16.blk; have hx16 := hp16.other (hb12r.below hb15 hb12r.lt) (by have := hb12r.lt; omega); have hb16 := (hbr.trans (hb15.mono hbr.size)).trans (hp16.below (Nat.le_trans hbr.size hg15)))
          | ((with_reducible refine wpAtC ?_); refine wpList_loadG rfl _ _ rfl _ _ rfl (ys.map cb) hay (blk_cells hy16) ?_; simp only [Act.put, List.setIfInBounds_toArray, List.set_cons_succ, List.set_cons_zero])
          | ((with_reducible refine wpAtC ?_); refine wpList_loadG rfl _ _ rfl _ _ rfl (h.map cb) hah (blk_cells hh16) ?_; simp only [Act.put, List.setIfInBounds_toArray, List.set_cons_succ, List.set_cons_zero]))
        refine (Node_any w16 (HLC.out.sha.below (bx_trans HBW.out hb16)) hys hhl).mono ?_
        rintro e w17 ⟨rfl, hb17⟩
        rw [show shaL (1 :: (ys ++ h)) = nodeL ys h from rfl]
        have hx17 := hx16.below hb17 hx16.lt
        have hy17 := hy16.below hb17 hy16.lt
        have hb017 := hb16.trans (hb17.mono hb16.size)
        have hnl := nodeL_len ys h
        clear hx16 hy16 hh16 hb16 hb17 hp16 hz15 hb15 hcr hb12r hb13r hbr hah hay
        generalize nodeL ys h = N at *
        go_wp2_with ((with_reducible refine wpAtC ?_); refine wpList_store_agg rfl _ _ _ rfl _ _ rfl (N.map cb).toArray rfl (aggHS hnl) hy17 (by rw [List.size_toArray, List.size_toArray, List.length_map, List.length_map]; omega) (one_cbA N) ?_; intro w18 hp18; simp only [Act.put])
        rw [show spl (ys.map cb).toArray 0 (N.map cb).toArray.toList = (N.map cb).toArray from spl_whole (by rw [List.size_toArray, List.size_toArray, List.length_map, List.length_map]; omega)] at hp18
        have hx18 := hp18.other hx17 (by omega)
        have hb018 := hb017.trans (hp18.below hg13)
        go_roundw
        case rel => exact ⟨j + 1, xs, N, a / 2, l / 2, by omega, HST.out.symm, by simp, by simp, by go_num, hx18, hp18.blk, hb018, by omega, by omega⟩
        case measure => simp [intOf]; omega
    · have hjr : j = r := by omega
      subst hjr
      have hfin : (xs, ys, a, l) = (X, Y, 0, 0) := by rw [hst, ← HRL.out, List.take_length]; exact HWALK.out
      injection hfin with e1 hfin
      injection hfin with e2 hfin
      injection hfin with e3 e4
      subst e1 e2 e3 e4
      clear hst HWALK
      have hjp : ¬ j < p - 1 := by omega
      rename World => wo
      have hr3 := kcell_root (HAA.out.below hbr HAA.out.lt)
      have hr4 := kcell_root (HBB.out.below hbr HBB.out.lt)
      have hao := aggHL ho
      have han := aggHL hw
      have hax := aggHL hxs
      have hay := aggHL hys
      have HF := hid (bx_trans HBW.out hbr)
      have heq1 := eq_hash xs old hxs ho
      have heq2 := eq_hash ys now hys hw
      have hcx := blk_cells hb12r
      have hcy := blk_cells hb13r
      clear hbr hb12r hb13r
      by_cases hX : xs = old
      · rw [show (xs == old) = true by simpa using hX] at heq1
        by_cases hY : ys = now
        · rw [show (ys == now) = true by simpa using hY] at heq2
          have HE : Hid (R = 0) := hid (by rw [HVER.out, if_pos ⟨hX, hY⟩])
          clear hX hY HVER
          go_wp2_with (first
            | ((with_reducible refine wpAtC ?_); refine wpList_loadG rfl _ _ rfl _ _ rfl (xs.map cb) hax hcx ?_; simp only [Act.put, List.setIfInBounds_toArray, List.set_cons_succ, List.set_cons_zero])
            | ((with_reducible refine wpAtC ?_); refine wpList_loadG rfl _ _ rfl _ _ rfl (ys.map cb) hay hcy ?_; simp only [Act.put, List.setIfInBounds_toArray, List.set_cons_succ, List.set_cons_zero])
            | ((with_reducible refine wpAtC ?_); refine wpList_loadG rfl _ _ rfl _ _ rfl (old.map cb) hao hr3 ?_; simp only [Act.put, List.setIfInBounds_toArray, List.set_cons_succ, List.set_cons_zero])
            | ((with_reducible refine wpAtC ?_); refine wpList_loadG rfl _ _ rfl _ _ rfl (now.map cb) han hr4 ?_; simp only [Act.put, List.setIfInBounds_toArray, List.set_cons_succ, List.set_cons_zero]))
          go_ret
          exact ⟨by rw [HE.out]; rfl, HF.out⟩
        · rw [show (ys == now) = false by simpa using hY] at heq2
          have HE : Hid (R = 20) := hid (by rw [HVER.out, if_neg (fun hh => hY hh.2)])
          clear hX hY HVER
          go_wp2_with (first
            | ((with_reducible refine wpAtC ?_); refine wpList_loadG rfl _ _ rfl _ _ rfl (xs.map cb) hax hcx ?_; simp only [Act.put, List.setIfInBounds_toArray, List.set_cons_succ, List.set_cons_zero])
            | ((with_reducible refine wpAtC ?_); refine wpList_loadG rfl _ _ rfl _ _ rfl (ys.map cb) hay hcy ?_; simp only [Act.put, List.setIfInBounds_toArray, List.set_cons_succ, List.set_cons_zero])
            | ((with_reducible refine wpAtC ?_); refine wpList_loadG rfl _ _ rfl _ _ rfl (old.map cb) hao hr3 ?_; simp only [Act.put, List.setIfInBounds_toArray, List.set_cons_succ, List.set_cons_zero])
            | ((with_reducible refine wpAtC ?_); refine wpList_loadG rfl _ _ rfl _ _ rfl (now.map cb) han hr4 ?_; simp only [Act.put, List.setIfInBounds_toArray, List.set_cons_succ, List.set_cons_zero]))
          go_ret
          exact ⟨by rw [HE.out]; rfl, HF.out⟩
      · rw [show (xs == old) = false by simpa using hX] at heq1
        have HE : Hid (R = 20) := hid (by rw [HVER.out, if_neg (fun hh => hX hh.1)])
        clear hX HVER
        go_wp2_with (first
          | ((with_reducible refine wpAtC ?_); refine wpList_loadG rfl _ _ rfl _ _ rfl (xs.map cb) hax hcx ?_; simp only [Act.put, List.setIfInBounds_toArray, List.set_cons_succ, List.set_cons_zero])
          | ((with_reducible refine wpAtC ?_); refine wpList_loadG rfl _ _ rfl _ _ rfl (old.map cb) hao hr3 ?_; simp only [Act.put, List.setIfInBounds_toArray, List.set_cons_succ, List.set_cons_zero]))
        go_ret
        exact ⟨by rw [HE.out]; rfl, HF.out⟩
end Go.Proofs.YtgaefejblmnklaaDoor
