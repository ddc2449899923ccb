
/- ChainSteps: its walk. -/
import Derived.Test.YtjkolpioglpigaaDoorChM
import Derived.Test.YtjkolpioglpigaaDoorChO
import Derived.OpenShut
namespace Go.Proofs.YtjkolpioglpigaaDoor
open Go.RowKit
set_option linter.unusedVariables false
def ib (n : Nat) : Value := .int .i64 (n : Int)
set_option maxRecDepth 10000 in
set_option maxHeartbeats 4000000 in
theorem ChainSteps_walk (w : World) (hL : LaidC w) (A : Option Addr) (c : Nat) (ls : List (List UInt8)) (hc : ls.length ≤ c) (hm : c ≤ maxLen) (hs : ∀ l ∈ ls, l.length ≤ maxLen) (hr : RdBB w w.heap.size A ls) (a1 : Int) (hat1 : (Lit.int .u8 a1).wf = true) (a2 : Int) (hat2 : (Lit.int .u8 a2).wf = true) (a3 : Int) (hat3 : (Lit.int .u8 a3).wf = true) :
    Calls Tryd.prog 8 #[.slice A ls.length c, .int .u8 a1, .int .u8 a2, .int .u8 a3] w fun e w' => e = .returned (.bool true) ∧ Below w.heap.size w w' := by
  have hab1 := bounds_u8 hat1
  have hab2 := bounds_u8 hat2
  have hab3 := bounds_u8 hat3
  obtain ⟨a1, rfl⟩ := Int.eq_ofNat_of_zero_le hab1.1
  obtain ⟨a2, rfl⟩ := Int.eq_ofNat_of_zero_le hab2.1
  obtain ⟨a3, rfl⟩ := Int.eq_ofNat_of_zero_le hab3.1
  have ha1 : a1 ≤ 255 := by omega
  have ha2 : a2 ≤ 255 := by omega
  have ha3 : a3 ≤ 255 := by omega
  clear hat1 hab1 hat2 hab2 hat3 hab3
  have HL := hid hL
  have HR := hid hr
  clear hL hr hs
  go_enter Tryd.func8, Tryd.ntmps8
  go_wp2_with fail
  refine (chAwake w HL.out).mono ?_
  rintro e w1 ⟨rfl, hb1⟩
  go_wp2_with fail
  refine (few_any w1 ((HR.out.below hb1).more hb1.size) hc hm).mono ?_
  rintro e w2 ⟨rfl, rfl⟩
  cases hf : fewB ls with
  | false =>
    clear hf
    go_wp2
    go_ret
    exact ⟨rfl, hb1⟩
  | true =>
    obtain ⟨h20, hlen⟩ := fewB_len hf
    have HLEN := hid hlen
    clear hf hlen
    by_cases h0 : ls.length < 1
    · go_wp2
      go_ret
      exact ⟨rfl, hb1⟩
    obtain ⟨n, hn⟩ : ∃ n, n = ls.length := ⟨_, rfl⟩
    have key : ∀ a : Nat, ∃ q x : Nat, (a : Int) % (n : Int) = (q : Int) ∧ x = q + 1 ∧ 1 ≤ x ∧ x ≤ n ∧ q ≤ 20 := by
      intro a
      have hq : a % n < n := Nat.mod_lt _ (by omega)
      exact ⟨a % n, a % n + 1, rfl, rfl, by omega, by omega, by omega⟩
    obtain ⟨q1, x1, r1, e1, k1, l1, m1⟩ := key a1
    obtain ⟨q2, x2, r2, e2, k2, l2, m2⟩ := key a2
    obtain ⟨q3, x3, r3, e3, k3, l3, m3⟩ := key a3
    have hnz : ¬ n = 0 := by omega
    rw [← hn] at hc h20 h0 ⊢
    have HN := hid hn.symm
    have HX := hid (show ∀ x ∈ [x1, x2, x3], 1 ≤ x ∧ x ≤ n from by
      intro x hx
      simp at hx
      rcases hx with rfl | rfl | rfl <;> omega)
    have E1 := hid e1
    have E2 := hid e2
    have E3 := hid e3
    clear hn key e1 e2 e3
    go_wp2_with fail
    refine wp_flow (by kernel_rfl) [0, 1, 0, 4, 15, 31, 0, 64, 0, 256, 960, 1984, 0, 4096, 0, 16384, 61440, 126976, 262143, 524287] 19 [false, false, false, false, false, false, false, false, false, false, false, false, false, false, false, false, false, false, false, false, false, false, false, false, false, false, false, false, false, false, false, false, true, true, true, true, true, true, true, true, true, true, true, true, true, true, true, true, true, true, true] (by kernel_rfl) (by decide) (by kernel_rfl) [FP.eq (.int .u8 (a1 : Int)), FP.eq (.int .i64 (a1 : Int)), FP.eq (.slice A n c), FP.eq (.int .i64 (n : Int)), FP.eq (.int .i64 (q1 : Int)), FP.eq (.int .i64 (x1 : Int)), FP.eq (.int .u8 (a2 : Int)), FP.eq (.int .i64 (a2 : Int)), FP.eq (.slice A n c), FP.eq (.int .i64 (n : Int)), FP.eq (.int .i64 (q2 : Int)), FP.eq (.int .i64 (x2 : Int)), FP.eq (.int .u8 (a3 : Int)), FP.eq (.int .i64 (a3 : Int)), FP.eq (.slice A n c), FP.eq (.int .i64 (n : Int)), FP.eq (.int .i64 (q3 : Int)), FP.eq (.int .i64 (x3 : Int)), FP.sl 3 ([x1, x2, x3].map ib)] ?_ ?_
    · refine allFrom_cons ?_ ?_
      · intro a_ w_ hk_
        have h1 : a_.eval (.tmp 1) = .int .u8 (a1 : Int) := hk_.old 1 (by kernel_rfl)
        have hx_ := hk_.ext
        clear hk_
        refine flow_plain rfl ?_
        exact gives_move rfl ⟨Below.refl _ _, h1⟩
      refine allFrom_cons ?_ ?_
      · intro a_ w_ hk_
        have h32 : a_.eval (.tmp 32) = (.int .u8 (a1 : Int)) := hk_.got 0 32 _ (by kernel_rfl) rfl rfl
        have hx_ := hk_.ext
        clear hk_
        refine flow_plain rfl ?_
        unfold gives
        have hc_ : ∀ v, a_.eval (.const v) = v := fun _ => rfl
        have hn_ : ∀ f, a_.eval (.func f) = .func (.func f) #[] #[] := fun _ => rfl
        generalize a_.eval = ρ_ at *
        go_simp
        exact ⟨Below.refl _ _, congrArg (Value.int _) (wr_i64 _ (by omega) (by omega))⟩
      refine allFrom_cons ?_ ?_
      · intro a_ w_ hk_
        have h0 : a_.eval (.tmp 0) = .slice A n c := hk_.old 0 (by kernel_rfl)
        have hx_ := hk_.ext
        clear hk_
        refine flow_plain rfl ?_
        exact gives_move rfl ⟨Below.refl _ _, h0⟩
      refine allFrom_cons ?_ ?_
      · intro a_ w_ hk_
        have h34 : a_.eval (.tmp 34) = (.slice A n c) := hk_.got 2 34 _ (by kernel_rfl) rfl rfl
        have hx_ := hk_.ext
        clear hk_
        refine flow_plain rfl ?_
        unfold gives
        have hc_ : ∀ v, a_.eval (.const v) = v := fun _ => rfl
        have hn_ : ∀ f, a_.eval (.func f) = .func (.func f) #[] #[] := fun _ => rfl
        generalize a_.eval = ρ_ at *
        go_simp
        exact ⟨Below.refl _ _, rfl⟩
      refine allFrom_cons ?_ ?_
      · intro a_ w_ hk_
        have h33 : a_.eval (.tmp 33) = (.int .i64 (a1 : Int)) := hk_.got 1 33 _ (by kernel_rfl) rfl rfl
        have h35 : a_.eval (.tmp 35) = (.int .i64 (n : Int)) := hk_.got 3 35 _ (by kernel_rfl) rfl rfl
        have hx_ := hk_.ext
        clear hk_
        refine flow_plain rfl ?_
        unfold gives
        have hc_ : ∀ v, a_.eval (.const v) = v := fun _ => rfl
        have hn_ : ∀ f, a_.eval (.func f) = .func (.func f) #[] #[] := fun _ => rfl
        generalize a_.eval = ρ_ at *
        go_simp
        exact ⟨Below.refl _ _, congrArg (Value.int _) (by rw [Int.tmod_eq_emod_of_nonneg (by omega)]; exact r1)⟩
      refine allFrom_cons ?_ ?_
      · intro a_ w_ hk_
        have h36 : a_.eval (.tmp 36) = (.int .i64 (q1 : Int)) := hk_.got 4 36 _ (by kernel_rfl) rfl rfl
        have hx_ := hk_.ext
        clear hk_
        refine flow_plain rfl ?_
        unfold gives
        have hc_ : ∀ v, a_.eval (.const v) = v := fun _ => rfl
        have hn_ : ∀ f, a_.eval (.func f) = .func (.func f) #[] #[] := fun _ => rfl
        generalize a_.eval = ρ_ at *
        go_simp
        exact ⟨Below.refl _ _, congrArg (Value.int _) ((wr_i64 _ (by omega) (by omega)).trans (by have := E1.out; omega))⟩
      refine allFrom_cons ?_ ?_
      · intro a_ w_ hk_
        have h2 : a_.eval (.tmp 2) = .int .u8 (a2 : Int) := hk_.old 2 (by kernel_rfl)
        have hx_ := hk_.ext
        clear hk_
        refine flow_plain rfl ?_
        exact gives_move rfl ⟨Below.refl _ _, h2⟩
      refine allFrom_cons ?_ ?_
      · intro a_ w_ hk_
        have h38 : a_.eval (.tmp 38) = (.int .u8 (a2 : Int)) := hk_.got 6 38 _ (by kernel_rfl) rfl rfl
        have hx_ := hk_.ext
        clear hk_
        refine flow_plain rfl ?_
        unfold gives
        have hc_ : ∀ v, a_.eval (.const v) = v := fun _ => rfl
        have hn_ : ∀ f, a_.eval (.func f) = .func (.func f) #[] #[] := fun _ => rfl
        generalize a_.eval = ρ_ at *
        go_simp
        exact ⟨Below.refl _ _, congrArg (Value.int _) (wr_i64 _ (by omega) (by omega))⟩
      refine allFrom_cons ?_ ?_
      · intro a_ w_ hk_
        have h0 : a_.eval (.tmp 0) = .slice A n c := hk_.old 0 (by kernel_rfl)
        have hx_ := hk_.ext
        clear hk_
        refine flow_plain rfl ?_
        exact gives_move rfl ⟨Below.refl _ _, h0⟩
      refine allFrom_cons ?_ ?_
      · intro a_ w_ hk_
        have h40 : a_.eval (.tmp 40) = (.slice A n c) := hk_.got 8 40 _ (by kernel_rfl) rfl rfl
        have hx_ := hk_.ext
        clear hk_
        refine flow_plain rfl ?_
        unfold gives
        have hc_ : ∀ v, a_.eval (.const v) = v := fun _ => rfl
        have hn_ : ∀ f, a_.eval (.func f) = .func (.func f) #[] #[] := fun _ => rfl
        generalize a_.eval = ρ_ at *
        go_simp
        exact ⟨Below.refl _ _, rfl⟩
      refine allFrom_cons ?_ ?_
      · intro a_ w_ hk_
        have h39 : a_.eval (.tmp 39) = (.int .i64 (a2 : Int)) := hk_.got 7 39 _ (by kernel_rfl) rfl rfl
        have h41 : a_.eval (.tmp 41) = (.int .i64 (n : Int)) := hk_.got 9 41 _ (by kernel_rfl) rfl rfl
        have hx_ := hk_.ext
        clear hk_
        refine flow_plain rfl ?_
        unfold gives
        have hc_ : ∀ v, a_.eval (.const v) = v := fun _ => rfl
        have hn_ : ∀ f, a_.eval (.func f) = .func (.func f) #[] #[] := fun _ => rfl
        generalize a_.eval = ρ_ at *
        go_simp
        exact ⟨Below.refl _ _, congrArg (Value.int _) (by rw [Int.tmod_eq_emod_of_nonneg (by omega)]; exact r2)⟩
      refine allFrom_cons ?_ ?_
      · intro a_ w_ hk_
        have h42 : a_.eval (.tmp 42) = (.int .i64 (q2 : Int)) := hk_.got 10 42 _ (by kernel_rfl) rfl rfl
        have hx_ := hk_.ext
        clear hk_
        refine flow_plain rfl ?_
        unfold gives
        have hc_ : ∀ v, a_.eval (.const v) = v := fun _ => rfl
        have hn_ : ∀ f, a_.eval (.func f) = .func (.func f) #[] #[] := fun _ => rfl
        generalize a_.eval = ρ_ at *
        go_simp
        exact ⟨Below.refl _ _, congrArg (Value.int _) ((wr_i64 _ (by omega) (by omega)).trans (by have := E2.out; omega))⟩
      refine allFrom_cons ?_ ?_
      · intro a_ w_ hk_
        have h3 : a_.eval (.tmp 3) = .int .u8 (a3 : Int) := hk_.old 3 (by kernel_rfl)
        have hx_ := hk_.ext
        clear hk_
        refine flow_plain rfl ?_
        exact gives_move rfl ⟨Below.refl _ _, h3⟩
      refine allFrom_cons ?_ ?_
      · intro a_ w_ hk_
        have h44 : a_.eval (.tmp 44) = (.int .u8 (a3 : Int)) := hk_.got 12 44 _ (by kernel_rfl) rfl rfl
        have hx_ := hk_.ext
        clear hk_
        refine flow_plain rfl ?_
        unfold gives
        have hc_ : ∀ v, a_.eval (.const v) = v := fun _ => rfl
        have hn_ : ∀ f, a_.eval (.func f) = .func (.func f) #[] #[] := fun _ => rfl
        generalize a_.eval = ρ_ at *
        go_simp
        exact ⟨Below.refl _ _, congrArg (Value.int _) (wr_i64 _ (by omega) (by omega))⟩
      refine allFrom_cons ?_ ?_
      · intro a_ w_ hk_
        have h0 : a_.eval (.tmp 0) = .slice A n c := hk_.old 0 (by kernel_rfl)
        have hx_ := hk_.ext
        clear hk_
        refine flow_plain rfl ?_
        exact gives_move rfl ⟨Below.refl _ _, h0⟩
      refine allFrom_cons ?_ ?_
      · intro a_ w_ hk_
        have h46 : a_.eval (.tmp 46) = (.slice A n c) := hk_.got 14 46 _ (by kernel_rfl) rfl rfl
        have hx_ := hk_.ext
        clear hk_
        refine flow_plain rfl ?_
        unfold gives
        have hc_ : ∀ v, a_.eval (.const v) = v := fun _ => rfl
        have hn_ : ∀ f, a_.eval (.func f) = .func (.func f) #[] #[] := fun _ => rfl
        generalize a_.eval = ρ_ at *
        go_simp
        exact ⟨Below.refl _ _, rfl⟩
      refine allFrom_cons ?_ ?_
      · intro a_ w_ hk_
        have h45 : a_.eval (.tmp 45) = (.int .i64 (a3 : Int)) := hk_.got 13 45 _ (by kernel_rfl) rfl rfl
        have h47 : a_.eval (.tmp 47) = (.int .i64 (n : Int)) := hk_.got 15 47 _ (by kernel_rfl) rfl rfl
        have hx_ := hk_.ext
        clear hk_
        refine flow_plain rfl ?_
        unfold gives
        have hc_ : ∀ v, a_.eval (.const v) = v := fun _ => rfl
        have hn_ : ∀ f, a_.eval (.func f) = .func (.func f) #[] #[] := fun _ => rfl
        generalize a_.eval = ρ_ at *
        go_simp
        exact ⟨Below.refl _ _, congrArg (Value.int _) (by rw [Int.tmod_eq_emod_of_nonneg (by omega)]; exact r3)⟩
      refine allFrom_cons ?_ ?_
      · intro a_ w_ hk_
        have h48 : a_.eval (.tmp 48) = (.int .i64 (q3 : Int)) := hk_.got 16 48 _ (by kernel_rfl) rfl rfl
        have hx_ := hk_.ext
        clear hk_
        refine flow_plain rfl ?_
        unfold gives
        have hc_ : ∀ v, a_.eval (.const v) = v := fun _ => rfl
        have hn_ : ∀ f, a_.eval (.func f) = .func (.func f) #[] #[] := fun _ => rfl
        generalize a_.eval = ρ_ at *
        go_simp
        exact ⟨Below.refl _ _, congrArg (Value.int _) ((wr_i64 _ (by omega) (by omega)).trans (by have := E3.out; omega))⟩
      refine allFrom_cons ?_ ?_
      · intro a_ w_ hk_
        have h37 : a_.eval (.tmp 37) = (.int .i64 (x1 : Int)) := hk_.got 5 37 _ (by kernel_rfl) rfl rfl
        have h43 : a_.eval (.tmp 43) = (.int .i64 (x2 : Int)) := hk_.got 11 43 _ (by kernel_rfl) rfl rfl
        have h49 : a_.eval (.tmp 49) = (.int .i64 (x3 : Int)) := hk_.got 17 49 _ (by kernel_rfl) rfl rfl
        have hx_ := hk_.ext
        clear hk_
        refine flow_plain rfl ?_
        unfold gives
        have hc_ : ∀ v, a_.eval (.const v) = v := fun _ => rfl
        have hn_ : ∀ f, a_.eval (.func f) = .func (.func f) #[] #[] := fun _ => rfl
        generalize a_.eval = ρ_ at *
        go_simp
        exact sl_new rfl
      exact allFrom_nil
    intro f_ w_ hx_ hf_
    have h32 : f_ 32 = (.int .u8 (a1 : Int)) := hf_ 0 32 _ (by decide) rfl rfl
    have h33 : f_ 33 = (.int .i64 (a1 : Int)) := hf_ 1 33 _ (by decide) rfl rfl
    have h34 : f_ 34 = (.slice A n c) := hf_ 2 34 _ (by decide) rfl rfl
    have h35 : f_ 35 = (.int .i64 (n : Int)) := hf_ 3 35 _ (by decide) rfl rfl
    have h36 : f_ 36 = (.int .i64 (q1 : Int)) := hf_ 4 36 _ (by decide) rfl rfl
    have h37 : f_ 37 = (.int .i64 (x1 : Int)) := hf_ 5 37 _ (by decide) rfl rfl
    have h38 : f_ 38 = (.int .u8 (a2 : Int)) := hf_ 6 38 _ (by decide) rfl rfl
    have h39 : f_ 39 = (.int .i64 (a2 : Int)) := hf_ 7 39 _ (by decide) rfl rfl
    have h40 : f_ 40 = (.slice A n c) := hf_ 8 40 _ (by decide) rfl rfl
    have h41 : f_ 41 = (.int .i64 (n : Int)) := hf_ 9 41 _ (by decide) rfl rfl
    have h42 : f_ 42 = (.int .i64 (q2 : Int)) := hf_ 10 42 _ (by decide) rfl rfl
    have h43 : f_ 43 = (.int .i64 (x2 : Int)) := hf_ 11 43 _ (by decide) rfl rfl
    have h44 : f_ 44 = (.int .u8 (a3 : Int)) := hf_ 12 44 _ (by decide) rfl rfl
    have h45 : f_ 45 = (.int .i64 (a3 : Int)) := hf_ 13 45 _ (by decide) rfl rfl
    have h46 : f_ 46 = (.slice A n c) := hf_ 14 46 _ (by decide) rfl rfl
    have h47 : f_ 47 = (.int .i64 (n : Int)) := hf_ 15 47 _ (by decide) rfl rfl
    have h48 : f_ 48 = (.int .i64 (q3 : Int)) := hf_ 16 48 _ (by decide) rfl rfl
    have h49 : f_ 49 = (.int .i64 (x3 : Int)) := hf_ 17 49 _ (by decide) rfl rfl
    have h50 : (FP.sl 3 ([x1, x2, x3].map ib)).p (f_ 50) w_ := hf_ 18 50 _ (by decide) rfl rfl
    simp only [mix, List.drop_succ_cons, List.drop_zero, h32, h33, h34, h35, h36, h37, h38, h39, h40, h41, h42, h43, h44, h45, h46, h47, h48, h49]
    clear h32 h33 h34 h35 h36 h37 h38 h39 h40 h41 h42 h43 h44 h45 h46 h47 h48 h49
    clear hf_
    obtain ⟨A11, c11, he11, hrd11⟩ := h50
    simp only [he11]
    rename World => w3
    have hb3 := bx_trans hb1 hx_
    obtain ⟨X, hX⟩ : ∃ X, X = [x1, x2, x3] := ⟨_, rfl⟩
    have hXl : X.length = 3 := by rw [hX]; rfl
    rw [← hX] at hrd11 HX
    have hB11 : ∃ b off, A11 = some ⟨b, off, none⟩ ∧ b < w3.heap.size ∧ ∀ i v, (X.map ib)[i]? = some v → w3.cell? ⟨b, off + i, none⟩ = some v := hrd11.at_ (k := 0) (by rw [List.length_map]; omega)
    obtain ⟨b, off, rfl, hbl, hcX⟩ := hB11
    have HCX := hid hcX
    clear hcX hrd11 hX E1 E2 E3 r1 r2 r3 k1 k2 k3 l1 l2 l3 m1 m2 m3 hx_ hb1 he11
    go_wp2_with fail
    go_loopw [12] (fun v12 wr => ∃ i : Nat, i ≤ 3 ∧ v12 = .int .i64 (i : Int) ∧ Below w3.heap.size w3 wr) (fun v12 _ => 3 - (intOf v12).toNat)
    case atStart => exact ⟨0, by omega, rfl, Below.refl _ _⟩
    case round =>
      obtain ⟨i, hi, rfl, hbr⟩ := hrel
      rename World => wo
      by_cases hlt : i < 3
      ·
        -- <<R
        have hd3 : decide ((i : Int) < 3) = true := by simp; omega
        go_wp2_with fail
        go_loopw [13] (fun v13 wr => ∃ k : Nat, k ≤ 3 ∧ v13 = .int .i64 (k : Int) ∧ Below w3.heap.size w3 wr) (fun v13 _ => 3 - (intOf v13).toNat)
        case atStart => exact ⟨0, by omega, rfl, hbr⟩
        case round =>
          obtain ⟨k, hk, rfl, hbs⟩ := hrel
          rename World => wq
          clear hbr
          by_cases hk3 : k < 3
          · have ci := HCX.out i (ib (X.getD i 0)) (by rw [List.getElem?_map, List.getElem?_eq_getElem (by omega)]; simp [List.getD, hXl, hlt])
            have ck := HCX.out k (ib (X.getD k 0)) (by rw [List.getElem?_map, List.getElem?_eq_getElem (by omega)]; simp [List.getD, hXl, hk3])
            have ci2 : wq.cell? ⟨b, off + i, none⟩ = some (.int .i64 ((X.getD i 0 : Nat) : Int)) := (hbs.cell (p := ⟨b, off + i, none⟩) hbl).trans ci
            have ck2 : wq.cell? ⟨b, off + k, none⟩ = some (.int .i64 ((X.getD k 0 : Nat) : Int)) := (hbs.cell (p := ⟨b, off + k, none⟩) hbl).trans ck
            have hmi := HX.out (X.getD i 0) (by rw [List.getD_eq_getElem?_getD, List.getElem?_eq_getElem (by omega)]; exact List.getElem_mem _)
            have hni := HX.out (X.getD k 0) (by rw [List.getD_eq_getElem?_getD, List.getElem?_eq_getElem (by omega)]; exact List.getElem_mem _)
            generalize X.getD i 0 = m at *
            generalize X.getD k 0 = n' at *
            obtain ⟨hm1, hm2⟩ := hmi
            obtain ⟨hn1, hn2⟩ := hni
            have hmc : m ≤ c := by omega
            have hnc : n' ≤ c := by omega
            have hum := u64_len m (by omega)
            have hun := u64_len n' (by omega)
            have HTM := hid (show (ls.take m).length = m by rw [List.length_take, HN.out]; omega)
            have HTN := hid (show (ls.take n').length = n' by rw [List.length_take, HN.out]; omega)
            have HLM := hid (show ∀ l ∈ ls.take m, l.length ≤ 800000000 from fun l hl => HLEN.out l (List.mem_of_mem_take hl))
            have HLN := hid (show ∀ l ∈ ls.take n', l.length ≤ 800000000 from fun l hl => HLEN.out l (List.mem_of_mem_take hl))
            have HB := hid (bx_trans hb3 hbs)
            have HS := hid hbs
            clear hbs ci ck
            by_cases hmn : m ≤ n'
            · have HV := hid (verL_prf (ls := ls.take n') (m := m) hm1 (by rw [HTN.out]; exact hmn))
              have HPK := hid (prf_ok n' (ls.take n') m true HTN.out)
              have hple := prf_le n' (ls.take n') m true HTN.out (by omega)
              have HTT : Hid ((ls.take n').take m = ls.take m) := hid (by rw [List.take_take, Nat.min_eq_left hmn])
              rw [HTT.out, HTN.out] at HV
              go_wp2_with fail
              clear ci2 ck2
              refine (Proof_any wq (HL.out.sha.below HB.out) (ls.take n') n' A c m HTN.out hm1 hmn (((HR.out.takeL n').below HB.out).more HB.out.size) hnc (by omega) HLN.out (by omega)).mono ?_
              rintro e wr4 ⟨v4, rfl, hown, hb4⟩
              obtain ⟨P, hP⟩ : ∃ P, P = prf (ls.take n') m true := ⟨_, rfl⟩
              rw [← hP] at hown hple HPK HV
              obtain ⟨A3, c3, rfl, hc3, hm3, hq3⟩ := own_form hown
              unfold maxLen at hm3
              have HO4 := hid hown
              have HB4 := hid (bx_trans HB.out hb4)
              have HS4 := hid (HS.out.trans (hb4.mono HS.out.size))
              clear hown hb4 hP hq3 HB HS HTT
              go_wp2_with fail
              refine (Root_any m wr4 (ls.take m) m A c w.heap.size HTM.out (Nat.le_refl _) (HL.out.sha.below HB4.out) ((HR.out.takeL m).below HB4.out) HB4.out.size hmc (by omega) HLM.out).mono ?_
              rintro e wr5 ⟨rfl, hb5⟩
              obtain ⟨rm, hrm⟩ : ∃ rm, rm = treeR (ls.take m) := ⟨_, rfl⟩
              have h3 : rm.length = 32 := by rw [hrm]; exact treeR_len _
              rw [← hrm]
              have HRM := hid hrm
              clear hrm
              have HO5 := hid (own_keep HO4.out hb5)
              have HS5 := hid (HS4.out.trans (hb5.mono HS4.out.size))
              have HB5 := hid (bx_trans HB4.out hb5)
              clear hb5
              go_wp2_with (first
                | ((with_reducible refine wpAtC ?_); refine wpList_gives rfl (gives_buildKy (m := m) (S := fun v w' => v = .agg (kcell m rm).toArray ∧ w' = _) rfl rfl rfl h3 ⟨rfl, rfl⟩) ?_; rintro v6 w6 ⟨rfl, rfl⟩; simp only [Act.put, List.setIfInBounds_toArray, List.set_cons_succ, List.set_cons_zero])
                | ((with_reducible refine wpAtC ?_); refine wpList_alloc rfl _ rfl zeroKy ?_; intro g8 w7 hg8 hg8' hz8 hb7; simp only [Act.put, List.setIfInBounds_toArray, List.set_cons_succ, List.set_cons_zero])
                | ((with_reducible refine wpAtC ?_); refine wpList_store_agg rfl _ _ _ rfl _ _ rfl (kcell m rm).toArray rfl (aggKyS m h3) hz8 (szKy m 0 h3 (by decide)) (oneKy m rm) ?_; intro w8 hp8; simp only [Act.put]; rw [splKy m 0 h3 (by decide)] at hp8; have hA8 := hp8.blk; have hb8 := hb7.trans (hp8.below hg8)))
              have HB8 := hid (bx_trans HB5.out hb8)
              have HO8 := hid (chPut (own_keep HO5.out hb7) hz8 hp8 (by decide))
              have HS8 := hid (HS5.out.trans (hb8.mono HS5.out.size))
              clear hb8
              refine (Root_any n' w8 (ls.take n') n' A c w.heap.size HTN.out (Nat.le_refl _) (HL.out.sha.below HB8.out) ((HR.out.takeL n').below HB8.out) HB8.out.size hnc (by omega) HLN.out).mono ?_
              rintro e w9 ⟨rfl, hb9⟩
              obtain ⟨rn, hrn⟩ : ∃ rn, rn = treeR (ls.take n') := ⟨_, rfl⟩
              have h7 : rn.length = 32 := by rw [hrn]; exact treeR_len _
              rw [← hrn]
              have HRN := hid hrn
              clear hrn
              have HB9 := hid (bx_trans HB8.out hb9)
              have hA9 := hA8.below hb9 hA8.lt
              have HO9 := hid (own_keep HO8.out hb9)
              have HS9 := hid (HS8.out.trans (hb9.mono HS8.out.size))
              clear hb9 hA8 hz8 hb7 hp8 HB8 HB5
              go_wp2_with (first
                | ((with_reducible refine wpAtC ?_); refine wpList_gives rfl (gives_buildKy (m := n') (S := fun v w' => v = .agg (kcell n' rn).toArray ∧ w' = _) rfl rfl rfl h7 ⟨rfl, rfl⟩) ?_; rintro v10 w10 ⟨rfl, rfl⟩; simp only [Act.put, List.setIfInBounds_toArray, List.set_cons_succ, List.set_cons_zero])
                | ((with_reducible refine wpAtC ?_); refine wpList_alloc rfl _ rfl zeroKy ?_; intro g9 w11 hg9 hg9' hz9 hb11; simp only [Act.put, List.setIfInBounds_toArray, List.set_cons_succ, List.set_cons_zero])
                | ((with_reducible refine wpAtC ?_); refine wpList_store_agg rfl _ _ _ rfl _ _ rfl (kcell n' rn).toArray rfl (aggKyS n' h7) hz9 (szKy n' 0 h7 (by decide)) (oneKy n' rn) ?_; intro w12 hp12; simp only [Act.put]; rw [splKy n' 0 h7 (by decide)] at hp12; have hB12 := hp12.blk; have hA12 := hp12.other (hA9.below hb11 hA9.lt) (by have := hA9.lt; omega); have hb12 := hb11.trans (hp12.below hg9); have hla := blk_cells hA12; have hlb := blk_cells hB12)
                | ((with_reducible refine wpAtC ?_); refine wpList_loadG rfl _ _ rfl _ _ rfl (kcell m rm) (aggKy m h3) hla ?_; simp only [Act.put, List.setIfInBounds_toArray, List.set_cons_succ, List.set_cons_zero])
                | ((with_reducible refine wpAtC ?_); refine wpList_loadG rfl _ _ rfl _ _ rfl (kcell n' rn) (aggKy n' h7) hlb ?_; simp only [Act.put, List.setIfInBounds_toArray, List.set_cons_succ, List.set_cons_zero]))
              have HB12 := hid (bx_trans HB9.out hb12)
              have HO12 := hid (chPut (own_keep HO9.out hb11) hz9 hp12 (by decide))
              have HS12 := hid (HS9.out.trans (hb12.mono HS9.out.size))
              rw [← HRM.out, ← HRN.out] at HV
              clear hla hlb hb12 hA9 hB12 hA12 hz9 hp12 hb11 HRM HRN HO9 HS9 HB9
              refine (Verify_any w12 (HL.out.below HB12.out) m n' P.length c3 A3 rm rn P rfl (by omega) (by omega) h3 h7 HPK.out (own_rd HO12.out) hc3 (by omega) (by omega)).mono ?_
              rintro e w13 ⟨rfl, hb13⟩
              rw [HV.out]
              have HS13 := hid (HS12.out.trans (hb13.mono HS12.out.size))
              clear hb13 HS12 HO12 HB12
              go_wp2
              go_roundw
              case rel => exact ⟨k + 1, by omega, by go_num, HS13.out⟩
              case measure => simp [intOf]; omega
            · have hmn2 : n' < m := by omega
              go_wp2_with fail
              clear ci2 ck2
              refine (Proof_no wq A n' c m (.inr (by omega))).mono ?_
              rintro e wr4 ⟨rfl, rfl⟩
              go_wp2_with fail
              refine (Root_any m wq (ls.take m) m A c w.heap.size HTM.out (Nat.le_refl _) (HL.out.sha.below HB.out) ((HR.out.takeL m).below HB.out) HB.out.size hmc (by omega) HLM.out).mono ?_
              rintro e wr5 ⟨rfl, hb5⟩
              obtain ⟨rm, hrm⟩ : ∃ rm, rm = treeR (ls.take m) := ⟨_, rfl⟩
              have h3 : rm.length = 32 := by rw [hrm]; exact treeR_len _
              rw [← hrm]
              have HRM := hid hrm
              clear hrm
              have HS5 := hid (HS.out.trans (hb5.mono HS.out.size))
              have HB5 := hid (bx_trans HB.out hb5)
              clear hb5
              go_wp2_with (first
                | ((with_reducible refine wpAtC ?_); refine wpList_gives rfl (gives_buildKy (m := m) (S := fun v w' => v = .agg (kcell m rm).toArray ∧ w' = _) rfl rfl rfl h3 ⟨rfl, rfl⟩) ?_; rintro v6 w6 ⟨rfl, rfl⟩; simp only [Act.put, List.setIfInBounds_toArray, List.set_cons_succ, List.set_cons_zero])
                | ((with_reducible refine wpAtC ?_); refine wpList_alloc rfl _ rfl zeroKy ?_; intro g8 w7 hg8 hg8' hz8 hb7; simp only [Act.put, List.setIfInBounds_toArray, List.set_cons_succ, List.set_cons_zero])
                | ((with_reducible refine wpAtC ?_); refine wpList_store_agg rfl _ _ _ rfl _ _ rfl (kcell m rm).toArray rfl (aggKyS m h3) hz8 (szKy m 0 h3 (by decide)) (oneKy m rm) ?_; intro w8 hp8; simp only [Act.put]; rw [splKy m 0 h3 (by decide)] at hp8; have hA8 := hp8.blk; have hb8 := hb7.trans (hp8.below hg8)))
              have HB8 := hid (bx_trans HB5.out hb8)
              have HS8 := hid (HS5.out.trans (hb8.mono HS5.out.size))
              clear hb8
              refine (Root_any n' w8 (ls.take n') n' A c w.heap.size HTN.out (Nat.le_refl _) (HL.out.sha.below HB8.out) ((HR.out.takeL n').below HB8.out) HB8.out.size hnc (by omega) HLN.out).mono ?_
              rintro e w9 ⟨rfl, hb9⟩
              obtain ⟨rn, hrn⟩ : ∃ rn, rn = treeR (ls.take n') := ⟨_, rfl⟩
              have h7 : rn.length = 32 := by rw [hrn]; exact treeR_len _
              rw [← hrn]
              have HRN := hid hrn
              clear hrn
              have HB9 := hid (bx_trans HB8.out hb9)
              have hA9 := hA8.below hb9 hA8.lt
              have HS9 := hid (HS8.out.trans (hb9.mono HS8.out.size))
              clear hb9 hA8 hz8 hb7 hp8 HB8 HB5
              go_wp2_with (first
                | ((with_reducible refine wpAtC ?_); refine wpList_gives rfl (gives_buildKy (m := n') (S := fun v w' => v = .agg (kcell n' rn).toArray ∧ w' = _) rfl rfl rfl h7 ⟨rfl, rfl⟩) ?_; rintro v10 w10 ⟨rfl, rfl⟩; simp only [Act.put, List.setIfInBounds_toArray, List.set_cons_succ, List.set_cons_zero])
                | ((with_reducible refine wpAtC ?_); refine wpList_alloc rfl _ rfl zeroKy ?_; intro g9 w11 hg9 hg9' hz9 hb11; simp only [Act.put, List.setIfInBounds_toArray, List.set_cons_succ, List.set_cons_zero])
                | ((with_reducible refine wpAtC ?_); refine wpList_store_agg rfl _ _ _ rfl _ _ rfl (kcell n' rn).toArray rfl (aggKyS n' h7) hz9 (szKy n' 0 h7 (by decide)) (oneKy n' rn) ?_; intro w12 hp12; simp only [Act.put]; rw [splKy n' 0 h7 (by decide)] at hp12; have hB12 := hp12.blk; have hA12 := hp12.other (hA9.below hb11 hA9.lt) (by have := hA9.lt; omega); have hb12 := hb11.trans (hp12.below hg9); have hla := blk_cells hA12; have hlb := blk_cells hB12)
                | ((with_reducible refine wpAtC ?_); refine wpList_loadG rfl _ _ rfl _ _ rfl (kcell m rm) (aggKy m h3) hla ?_; simp only [Act.put, List.setIfInBounds_toArray, List.set_cons_succ, List.set_cons_zero])
                | ((with_reducible refine wpAtC ?_); refine wpList_loadG rfl _ _ rfl _ _ rfl (kcell n' rn) (aggKy n' h7) hlb ?_; simp only [Act.put, List.setIfInBounds_toArray, List.set_cons_succ, List.set_cons_zero]))
              have HB12 := hid (bx_trans HB9.out hb12)
              have HS12 := hid (HS9.out.trans (hb12.mono HS9.out.size))
              clear hla hlb hb12 hA9 hB12 hA12 hz9 hp12 hb11 HRM HRN HS9 HB9
              have HV := hid (verL_out (m := m) (n := n') (old := rm) (now := rn) (path := []) (.inr hmn2))
              refine (Verify_any w12 (HL.out.below HB12.out) m n' 0 0 none rm rn [] rfl (by omega) (by omega) h3 h7 (fun x hx => (by cases hx)) (.inl rfl) (Nat.le_refl _) (by omega) (by omega)).mono ?_
              rintro e w13 ⟨rfl, hb13⟩
              rw [HV.out]
              have HS13 := hid (HS12.out.trans (hb13.mono HS12.out.size))
              clear hb13 HS12 HB12
              go_wp2
              go_roundw
              case rel => exact ⟨k + 1, by omega, by go_num, HS13.out⟩
              case measure => simp [intOf]; omega
          · have hk4 : k = 3 := by omega
            subst hk4
            have HS := hid hbs
            clear hbs
            go_wp2
            go_roundw
            case rel => exact ⟨i + 1, by omega, by go_num, HS.out⟩
            case measure => simp [intOf]; omega
        -- >>R
      · have hi3 : i = 3 := by omega
        subst hi3
        have HF := hid (bx_trans hb3 hbr)
        clear hbr hb3
        go_wp2
        go_ret
        exact ⟨rfl, HF.out⟩
end Go.Proofs.YtjkolpioglpigaaDoor
