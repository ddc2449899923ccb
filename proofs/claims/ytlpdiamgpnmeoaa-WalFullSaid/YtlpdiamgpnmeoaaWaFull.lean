
/- Records: WalFull walked. -/
import Derived.Test.YtlpdiamgpnmeoaaWaTurns
import Derived.Test.YtlpdiamgpnmeoaaWaBig
import Derived.Test.YtlpdiamgpnmeoaaRowW
namespace Go.Proofs.Ytlpdiamgpnmeoaa
open Go.RowKit
set_option linter.unusedVariables false
/-- What the rounds of WalFull keep. -/
structure FullI (w0 : World) (g gl k i : Nat) (D : DS) (L : LS) (u m : Nat) (wr : World) : Prop where
  has : Has wr w0.heap.size gl g D L []
  calm : D.fails = -1
  n : D.n = 2 + 2 * k
  size : L.size = k
  turn : L.turn = 0
  loose : D.loose.length ≤ i * 10
  below : Below w0.heap.size w0 wr
  ub : L.b.length = u
  mb : L.rows.length = m
  mi : m ≤ i
  short : ∀ r ∈ L.rows, r.length ≤ 699
theorem FullI.uk {w0 wr : World} {g gl k i u m : Nat} {D : DS} {L : LS} (h : FullI w0 g gl k i D L u m wr) : u ≤ 256 * k := by
  have h1 := h.has.inv.fit
  have h2 := h.size
  have h3 := h.ub
  omega
theorem FullI.next {w0 wr w' : World} {g gl k i u m : Nat} {D : DS} {L : LS} (h : FullI w0 g gl k i D L u m wr) (hb : Below wr.heap.size wr w') : FullI w0 g gl k i D L u m w' :=
  ⟨h.has.below hb h.below.size, h.calm, h.n, h.size, h.turn, h.loose, bx_trans h.below hb, h.ub, h.mb, h.mi, h.short⟩
theorem framL_take (rs : List (List UInt8)) (m : Nat) : (framL (rs.take m)).length ≤ (framL rs).length := by
  have h := framL_app (rs.take m) (rs.drop m)
  rw [List.take_append_drop] at h
  rw [h, List.length_append]
  omega
theorem framL_succ {rs : List (List UInt8)} {j : Nat} (h : j < rs.length) : (framL (rs.take (j + 1))).length = (framL (rs.take j)).length + (8 + rs[j].length) := by
  rw [List.take_succ_eq_append_getElem h, framL_snoc, List.length_append, frameL_len]
set_option maxRecDepth 100000 in
set_option maxHeartbeats 4000000 in
theorem WalFull_walk (w : World) (nn : Int) (hnn : (Lit.int .u8 nn).wf = true) (Az : Option Addr) (cz : Nat) (sizes : List Nat) (hcz : sizes.length ≤ cz) (hmz : cz ≤ maxLen) (hxz : ∀ n ∈ sizes, n < 65536) (hrz : Rd w w.heap.size Az (sizes.map nb16)) (kp : Int) (hkp : (Lit.int .u8 kp).wf = true) :
    Calls Try.prog 4 #[.int .u8 nn, .slice Az sizes.length cz, .int .u8 kp] w fun e w' => e = .returned (.bool true) ∧ Below w.heap.size w w' := by
  obtain ⟨n0, n1⟩ := bounds_u8 hnn
  obtain ⟨p0, p1⟩ := bounds_u8 hkp
  obtain ⟨n, rfl⟩ := Int.eq_ofNat_of_zero_le n0
  obtain ⟨kn, rfl⟩ := Int.eq_ofNat_of_zero_le p0
  have hq : ((n : Int)).tmod 10 = ((n % 10 : Nat) : Int) := (Int.tmod_eq_emod_of_nonneg (by omega)).trans (by omega)
  obtain ⟨q, hqe⟩ : ∃ q, q = n % 10 := ⟨_, rfl⟩
  rw [← hqe] at hq
  obtain ⟨k, hk⟩ : ∃ k, k = q + 1 := ⟨_, rfl⟩
  have hk10 : 1 ≤ k ∧ k ≤ 10 ∧ q ≤ 9 := by omega
  have hki : (q : Int) + 1 = (k : Int) := by omega
  have HQ := hid hq
  have HKI := hid hki
  have HRZ := hid hrz
  have HXZ := hid hxz
  clear hnn hkp hqe hq hki hrz hxz hmz hk
  go_enter Try.func4, Try.ntmps4
  rw [hold 6, hold 7, hold 9, hold 16, hold 18, hold 21, hold 22, hold 23, hold 26, hold 28, hold 32, hold 33]
  go_wp2_with fail
  refine (awake_any _).mono ?_
  rintro e w0 ⟨rfl, hb0⟩
  by_cases hs0 : 30 < sizes.length
  · have hsi : (30 : Int) < (sizes.length : Int) := by omega
    go_wp2_with fail
    exact bodyPost_ret (results_tmp rfl _ _ _) rfl ⟨rfl, hb0⟩
  have hsi : ¬ (30 : Int) < (sizes.length : Int) := by omega
  have HB0 := hid hb0
  have hB0 : w.heap.size ≤ w0.heap.size := hb0.size
  clear hb0
  go_wp2_with fail
  refine wp_hold (wp_region_lit ?_)
  refine wp_flowSE [0, 1, 3, 7, 15] 5 [false, false, false, false, false, false, false, false, true, false, false, false, false, false, false, false, false, false, false, false, false, false, false, false, false, false, false, false, false, true, true, true, true] (by kernel_rfl) (by kernel_rfl) (by kernel_rfl) [FP.eq (.int .u8 (n : Int)), FP.eq (.int .u8 (q : Int)), FP.eq (.int .i64 (q : Int)), FP.eq (.int .i64 (k : Int)), FP.eq (.int .i64 (k : Int))] ?_ ?_
  · refine allFrom_cons ?_ ?_
    · intro a_ w_ hk_
      have h0 : a_.eval (.tmp 0) = .int .u8 (n : Int) := hk_.old 0 (by kernel_rfl)
      have hx_ := hk_.ext
      clear hk_
      refine flow_plain rfl ?_
      exact gives_move rfl ⟨Below.refl _ _, h0⟩
    refine allFrom_cons ?_ ?_
    · intro a_ w_ hk_
      have h29 : a_.eval (.tmp 29) = (.int .u8 (n : Int)) := hk_.got 0 29 _ (by kernel_rfl) rfl rfl
      have hx_ := hk_.ext
      clear hk_
      refine flow_plain rfl ?_
      unfold gives
      have hc_ : ∀ v, a_.eval (.const v) = v := fun _ => rfl
      have hn_ : ∀ f, a_.eval (.func f) = .func (.func f) #[] #[] := fun _ => rfl
      generalize a_.eval = ρ_ at *
      go_simp
      exact ⟨Below.refl _ _, congrArg (Value.int _) HQ.out⟩
    refine allFrom_cons ?_ ?_
    · intro a_ w_ hk_
      have h30 : a_.eval (.tmp 30) = (.int .u8 (q : Int)) := hk_.got 1 30 _ (by kernel_rfl) rfl rfl
      have hx_ := hk_.ext
      clear hk_
      refine flow_plain rfl ?_
      unfold gives
      have hc_ : ∀ v, a_.eval (.const v) = v := fun _ => rfl
      have hn_ : ∀ f, a_.eval (.func f) = .func (.func f) #[] #[] := fun _ => rfl
      generalize a_.eval = ρ_ at *
      go_simp
      exact ⟨Below.refl _ _, congrArg (Value.int _) (i64_wrap (by omega) (by omega))⟩
    refine allFrom_cons ?_ ?_
    · intro a_ w_ hk_
      have h31 : a_.eval (.tmp 31) = (.int .i64 (q : Int)) := hk_.got 2 31 _ (by kernel_rfl) rfl rfl
      have hx_ := hk_.ext
      clear hk_
      refine flow_plain rfl ?_
      unfold gives
      have hc_ : ∀ v, a_.eval (.const v) = v := fun _ => rfl
      have hn_ : ∀ f, a_.eval (.func f) = .func (.func f) #[] #[] := fun _ => rfl
      generalize a_.eval = ρ_ at *
      go_simp
      exact ⟨Below.refl _ _, congrArg (Value.int _) ((i64_wrap (by omega) (by omega)).trans HKI.out)⟩
    refine allFrom_cons ?_ ?_
    · intro a_ w_ hk_
      have h32 : a_.eval (.tmp 32) = (.int .i64 (k : Int)) := hk_.got 3 32 _ (by kernel_rfl) rfl rfl
      have hx_ := hk_.ext
      clear hk_
      refine flow_plain rfl ?_
      exact gives_assign rfl ⟨Below.refl _ _, h32⟩
    exact allFrom_nil
  intro f_ w_ hx_ hf_
  have h29 : f_ 29 = (.int .u8 (n : Int)) := hf_ 0 29 _ (by decide) rfl rfl
  have h30 : f_ 30 = (.int .u8 (q : Int)) := hf_ 1 30 _ (by decide) rfl rfl
  have h31 : f_ 31 = (.int .i64 (q : Int)) := hf_ 2 31 _ (by decide) rfl rfl
  have h32 : f_ 32 = (.int .i64 (k : Int)) := hf_ 3 32 _ (by decide) rfl rfl
  have h8 : f_ 8 = (.int .i64 (k : Int)) := hf_ 4 8 _ (by decide) rfl rfl
  simp only [mix, h29, h30, h31, h32, h8]
  clear h29 h30 h31 h32 h8
  clear hf_
  obtain ⟨wq, hwq⟩ : ∃ wq, wq = w_ := ⟨_, rfl⟩
  rw [← hwq] at hx_ ⊢
  clear hwq
  have hq1 := hx_
  clear hx_
  have hnew : ∀ W, Calls Try.prog 11 #[.int .i64 (2 + 2 * (k : Int))] W fun e w' => ∃ g, e = .returned (.tuple #[.pointer (some ⟨g, 0, none⟩), .int .i64 0]) ∧ IsDisk w' W.heap.size g (newD (2 + 2 * k)) ∧ Below W.heap.size W w' := by
    intro W
    have := New_yes W (2 + 2 * k) (by omega) (by omega)
    rwa [show ((2 + 2 * k : Nat) : Int) = 2 + 2 * (k : Int) by omega] at this
  have HNEW := hid hnew
  clear hnew
  go_wp2_with fail
  refine wp_hold (wp_region_lit ?_)
  refine wp_flowS [0, 1, 3, 7, 15, 31, 63, 127, 255] 3 [false, false, false, false, false, false, false, false, false, false, false, false, false, false, false, false, false, false, false, false, false, false, false, false, false, false, false, false, false, false, false, false, false, false, true, true, true, false, false, false] (by kernel_rfl) (by decide) (by kernel_rfl) [FP.eq (.int .i64 (k : Int)), FP.eq (.int .i64 (2 * (k : Int))), FP.eq (.int .i64 (2 + 2 * (k : Int)))] ?_ ?_
  · refine allFrom_cons ?_ ?_
    · intro a_ w_ hk_
      have h8 : a_.eval (.tmp 8) = .int .i64 (k : Int) := hk_.old 8 (by kernel_rfl)
      have hx_ := hk_.ext
      clear hk_
      refine flow_plain rfl ?_
      exact gives_move rfl ⟨Below.refl _ _, h8⟩
    refine allFrom_cons ?_ ?_
    · intro a_ w_ hk_
      have h34 : a_.eval (.tmp 34) = (.int .i64 (k : Int)) := hk_.got 0 34 _ (by kernel_rfl) rfl rfl
      have hx_ := hk_.ext
      clear hk_
      refine flow_plain rfl ?_
      unfold gives
      have hc_ : ∀ v, a_.eval (.const v) = v := fun _ => rfl
      have hn_ : ∀ f, a_.eval (.func f) = .func (.func f) #[] #[] := fun _ => rfl
      generalize a_.eval = ρ_ at *
      go_simp
      exact ⟨Below.refl _ _, congrArg (Value.int _) (i64_wrap (by omega) (by omega))⟩
    refine allFrom_cons ?_ ?_
    · intro a_ w_ hk_
      have h35 : a_.eval (.tmp 35) = (.int .i64 (2 * (k : Int))) := hk_.got 1 35 _ (by kernel_rfl) rfl rfl
      have hx_ := hk_.ext
      clear hk_
      refine flow_plain rfl ?_
      unfold gives
      have hc_ : ∀ v, a_.eval (.const v) = v := fun _ => rfl
      have hn_ : ∀ f, a_.eval (.func f) = .func (.func f) #[] #[] := fun _ => rfl
      generalize a_.eval = ρ_ at *
      go_simp
      exact ⟨Below.refl _ _, congrArg (Value.int _) (i64_wrap (by omega) (by omega))⟩
    exact allFrom_nil
  intro f_ w_ hx_ hf_
  have h34 : f_ 34 = (.int .i64 (k : Int)) := hf_ 0 34 _ (by decide) rfl rfl
  have h35 : f_ 35 = (.int .i64 (2 * (k : Int))) := hf_ 1 35 _ (by decide) rfl rfl
  have h36 : f_ 36 = (.int .i64 (2 + 2 * (k : Int))) := hf_ 2 36 _ (by decide) rfl rfl
  simp only [mix, h34, h35, h36]
  clear h34 h35 h36
  clear hf_
  obtain ⟨wb, hwb⟩ : ∃ wb, wb = w_ := ⟨_, rfl⟩
  rw [← hwb] at hx_ ⊢
  clear hwb
  have hbb := bx_trans (bx_trans HB0.out hq1) hx_
  have HBB := hid hbb
  have hBB : w.heap.size ≤ wb.heap.size := hbb.size
  clear hbb hq1 hx_ HB0 hB0
  go_wp2_with fail
  refine (HNEW.out _).mono ?_
  rintro e w1 ⟨g, rfl, hd1, hb1⟩
  go_wp2_with fail
  have hsz : sizeD (newD (2 + 2 * k)) = k := by show (2 + 2 * k - 2) / 2 = k; omega
  refine (cOpen w1 hd1 hb1.size (by show 4 ≤ 2 + 2 * k; omega) rfl rfl (new_dur (2 + 2 * k) (by omega))).mono ?_
  rintro e w2 ⟨gl, rfl, hh2, hb2⟩
  rw [hsz] at hh2
  have hI0 : FullI wb g gl k 0 (newD (2 + 2 * k)) { size := k, turn := 0, area := 0, b := framL [], rows := [], sure := ([] : List (List UInt8)).length, e := 0 } 0 0 w2 := ⟨hh2, rfl, rfl, rfl, rfl, Nat.le_refl _, bx_trans hb1 hb2, rfl, rfl, Nat.le_refl _, fun r hr => by cases hr⟩
  have HI0 := hid hI0
  clear hI0 hsz hd1 hh2
  go_wp2_with fail
  refine wp_hold (wp_region_lit ?_)
  refine wp_flowSE [0, 1, 3, 7, 15, 31, 63, 127, 255] 9 [false, false, false, false, false, false, false, false, false, false, false, false, false, false, false, false, false, false, false, false, false, false, false, false, false, false, false, false, false, false, false, false, false, false, false, false, false, false, false, false, false, false, false, false, false, true, true, true, true, true, true, true, true, true] (by kernel_rfl) (by kernel_rfl) (by kernel_rfl) [FP.eq (.int .i64 0), FP.eq (.bool false), FP.eq (.bool false), FP.eq (.pointer (some ⟨gl, 0, none⟩)), FP.eq (.int .i64 (256 * (k : Int))), FP.eq (.int .i64 (k : Int)), FP.eq (.int .i64 (256 * (k : Int))), FP.eq (.bool false), FP.eq (.bool false)] ?_ ?_
  · refine allFrom_cons ?_ ?_
    · intro a_ w_ hk_
      have h12 : a_.eval (.tmp 12) = .int .i64 0 := hk_.old 12 (by kernel_rfl)
      have hx_ := hk_.ext
      clear hk_
      refine flow_plain rfl ?_
      exact gives_move rfl ⟨Below.refl _ _, h12⟩
    refine allFrom_cons ?_ ?_
    · intro a_ w_ hk_
      have h45 : a_.eval (.tmp 45) = (.int .i64 0) := hk_.got 0 45 _ (by kernel_rfl) rfl rfl
      have hx_ := hk_.ext
      clear hk_
      refine flow_plain rfl ?_
      unfold gives
      have hc_ : ∀ v, a_.eval (.const v) = v := fun _ => rfl
      have hn_ : ∀ f, a_.eval (.func f) = .func (.func f) #[] #[] := fun _ => rfl
      generalize a_.eval = ρ_ at *
      go_simp
      exact ⟨Below.refl _ _, rfl⟩
    refine allFrom_cons ?_ ?_
    · intro a_ w_ hk_
      have h46 : a_.eval (.tmp 46) = (.bool false) := hk_.got 1 46 _ (by kernel_rfl) rfl rfl
      have hx_ := hk_.ext
      clear hk_
      refine flow_plain rfl ?_
      exact gives_move rfl ⟨Below.refl _ _, h46⟩
    refine allFrom_cons ?_ ?_
    · intro a_ w_ hk_
      have h11 : a_.eval (.tmp 11) = .pointer (some ⟨gl, 0, none⟩) := hk_.old 11 (by kernel_rfl)
      have hg_ : a_.eval (.tmp 47) = .bool false := hk_.got 2 47 _ (by kernel_rfl) rfl rfl
      have hy_ := hk_.want 2 _ 47 false rfl rfl hg_
      have hx_ := hk_.ext
      clear hk_
      refine flow_want rfl hy_ ?_
      exact gives_move rfl ⟨Below.refl _ _, h11⟩
    refine allFrom_cons ?_ ?_
    · intro a_ w_ hk_
      have h48 : a_.eval (.tmp 48) = (.pointer (some ⟨gl, 0, none⟩)) := hk_.got 3 48 _ (by kernel_rfl) rfl rfl
      have hg_ : a_.eval (.tmp 47) = .bool false := hk_.got 2 47 _ (by kernel_rfl) rfl rfl
      have hy_ := hk_.want 2 _ 47 false rfl rfl hg_
      have hx_ := hk_.ext
      clear hk_
      refine flow_want rfl hy_ ?_
      unfold gives
      have hc_ : ∀ v, a_.eval (.const v) = v := fun _ => rfl
      have hn_ : ∀ f, a_.eval (.func f) = .func (.func f) #[] #[] := fun _ => rfl
      clear hy_ hg_
      generalize a_.eval = ρ_ at *
      go_simp
      exact (aFree w_ (HI0.out.has.log.below hx_ HI0.out.below.size) HI0.out.has.size).mono fun e w' ⟨h1, h2⟩ => ⟨_, h1, h2, congrArg (Value.int _) (by have h1 := HI0.out.size; have h2 := HI0.out.ub; rw [h1, h2]; omega)⟩
    refine allFrom_cons ?_ ?_
    · intro a_ w_ hk_
      have h8 : a_.eval (.tmp 8) = .int .i64 (k : Int) := hk_.old 8 (by kernel_rfl)
      have hg_ : a_.eval (.tmp 47) = .bool false := hk_.got 2 47 _ (by kernel_rfl) rfl rfl
      have hy_ := hk_.want 2 _ 47 false rfl rfl hg_
      have hx_ := hk_.ext
      clear hk_
      refine flow_want rfl hy_ ?_
      exact gives_move rfl ⟨Below.refl _ _, h8⟩
    refine allFrom_cons ?_ ?_
    · intro a_ w_ hk_
      have h50 : a_.eval (.tmp 50) = (.int .i64 (k : Int)) := hk_.got 5 50 _ (by kernel_rfl) rfl rfl
      have hg_ : a_.eval (.tmp 47) = .bool false := hk_.got 2 47 _ (by kernel_rfl) rfl rfl
      have hy_ := hk_.want 2 _ 47 false rfl rfl hg_
      have hx_ := hk_.ext
      clear hk_
      refine flow_want rfl hy_ ?_
      unfold gives
      have hc_ : ∀ v, a_.eval (.const v) = v := fun _ => rfl
      have hn_ : ∀ f, a_.eval (.func f) = .func (.func f) #[] #[] := fun _ => rfl
      clear hy_ hg_
      generalize a_.eval = ρ_ at *
      go_simp
      exact ⟨Below.refl _ _, congrArg (Value.int _) (i64_wrap (by omega) (by omega))⟩
    refine allFrom_cons ?_ ?_
    · intro a_ w_ hk_
      have h49 : a_.eval (.tmp 49) = (.int .i64 (256 * (k : Int))) := hk_.got 4 49 _ (by kernel_rfl) rfl rfl
      have h51 : a_.eval (.tmp 51) = (.int .i64 (256 * (k : Int))) := hk_.got 6 51 _ (by kernel_rfl) rfl rfl
      have hg_ : a_.eval (.tmp 47) = .bool false := hk_.got 2 47 _ (by kernel_rfl) rfl rfl
      have hy_ := hk_.want 2 _ 47 false rfl rfl hg_
      have hx_ := hk_.ext
      clear hk_
      refine flow_want rfl hy_ ?_
      unfold gives
      have hc_ : ∀ v, a_.eval (.const v) = v := fun _ => rfl
      have hn_ : ∀ f, a_.eval (.func f) = .func (.func f) #[] #[] := fun _ => rfl
      clear hy_ hg_
      generalize a_.eval = ρ_ at *
      go_simp
      exact ⟨Below.refl _ _, rfl⟩
    refine allFrom_cons ?_ ?_
    · intro a_ w_ hk_
      have h47 : a_.eval (.tmp 47) = (.bool false) := hk_.got 2 47 _ (by kernel_rfl) rfl rfl
      have h52 : a_.eval (.tmp 52) = (.bool false) := hk_.got 7 52 _ (by kernel_rfl) rfl rfl
      have hx_ := hk_.ext
      clear hk_
      refine flow_plain rfl ?_
      exact gives_pick rfl h47 ⟨Below.refl _ _, h52⟩
    exact allFrom_nil
  intro f_ w_ hx_ hf_
  have h45 : f_ 45 = (.int .i64 0) := hf_ 0 45 _ (by decide) rfl rfl
  have h46 : f_ 46 = (.bool false) := hf_ 1 46 _ (by decide) rfl rfl
  have h47 : f_ 47 = (.bool false) := hf_ 2 47 _ (by decide) rfl rfl
  have h48 : f_ 48 = (.pointer (some ⟨gl, 0, none⟩)) := hf_ 3 48 _ (by decide) rfl rfl
  have h49 : f_ 49 = (.int .i64 (256 * (k : Int))) := hf_ 4 49 _ (by decide) rfl rfl
  have h50 : f_ 50 = (.int .i64 (k : Int)) := hf_ 5 50 _ (by decide) rfl rfl
  have h51 : f_ 51 = (.int .i64 (256 * (k : Int))) := hf_ 6 51 _ (by decide) rfl rfl
  have h52 : f_ 52 = (.bool false) := hf_ 7 52 _ (by decide) rfl rfl
  have h53 : f_ 53 = (.bool false) := hf_ 8 53 _ (by decide) rfl rfl
  simp only [mix, h45, h46, h47, h48, h49, h50, h51, h52, h53]
  clear h45 h46 h47 h48 h49 h50 h51 h52 h53
  clear hf_
  obtain ⟨w3, hw3⟩ : ∃ w3, w3 = w_ := ⟨_, rfl⟩
  rw [← hw3] at hx_ ⊢
  clear hw3
  have hI3 : FullI wb g gl k 0 (newD (2 + 2 * k)) { size := k, turn := 0, area := 0, b := framL [], rows := [], sure := ([] : List (List UInt8)).length, e := 0 } 0 0 w3 := HI0.out.next hx_
  clear HI0 hx_
  go_wp2_with fail
  go_loopw [13, 14, 15, 16, 17] (fun v13 v14 v15 _ _ wr => ∃ (i u m : Nat) (D : DS) (L : LS), i ≤ sizes.length ∧ v15 = .int .i64 (i : Int) ∧ v13 = .int .i64 (u : Int) ∧ v14 = .int .i64 (m : Int) ∧ FullI wb g gl k i D L u m wr) (fun _ _ v15 _ _ _ => sizes.length - (ofInt v15).toNat)
  case atStart => exact ⟨0, 0, 0, _, _, Nat.zero_le _, rfl, rfl, rfl, hI3⟩
  case round =>
    obtain ⟨i, u, m, D, L, hi, rfl, rfl, rfl, hI⟩ := hrel
    rename World => wr
    clear hI3
    have hub := hI.ub
    have hui := hI.uk
    have hmi := hI.mi
    by_cases hlt : i < sizes.length
    · have hlti : (i : Int) < (sizes.length : Int) := by omega
      have hbw := HBB.out.trans (hI.below.mono hBB)
      obtain ⟨bt, offt, rfl, hbt, hct2⟩ := HRZ.out.at_ (k := i) (by rw [List.length_map]; exact hlt)
      obtain ⟨y, hy⟩ : ∃ y, sizes[i]? = some y := ⟨_, List.getElem?_eq_getElem hlt⟩
      have hy6 : y < 65536 := HXZ.out y (List.mem_of_getElem? hy)
      have hcy : wr.cell? ⟨bt, offt + i, none⟩ = some (.int .u16 (y : Int)) := (hbw.cell (p := ⟨bt, offt + i, none⟩) hbt).trans (hct2 i _ (by rw [List.getElem?_map, hy]; rfl))
      obtain ⟨s, hs⟩ : ∃ s, s = y % 700 := ⟨_, rfl⟩
      have hs7 : s < 700 := by omega
      have hsi : ((y : Int)).tmod 700 = (s : Int) := (Int.tmod_eq_emod_of_nonneg (by omega)).trans (by omega)
      have HSI := hid hsi
      have HI := hid hI
      have lbt := Nat.lt_of_lt_of_le hbt hbw.size
      have hmk : ∀ w : World, (Instr.makeSlice 23 (.int .i64 (s : Int)) (.int .i64 (s : Int))).run Try.prog w = .ok (.slice (some ⟨w.heap.size, 0, none⟩) s s) (w.alloc (.cells (zrow s (.int .u8 0)) tU8)) := run_mk1 elU8 .i64 .i64 s (by omega) (by omega)
      clear hI hs hsi hct2 hbw
      go_wp2_with fail
      refine wp_hold (wp_region_lit ?_)
      refine wp_flowSE [0, 1, 3, 7, 15, 31, 63] 7 [false, false, false, false, false, false, false, false, false, false, false, false, false, false, false, false, true, false, false, false, false, false, false, false, false, false, false, false, false, false, false, false, false, false, false, false, false, false, false, false, false, false, false, false, false, false, false, false, false, false, false, false, false, false, false, false, false, false, false, false, true, true, true, true, true, true] (by kernel_rfl) (by kernel_rfl) (by kernel_rfl) [FP.eq (.slice (some ⟨bt, offt, none⟩) sizes.length cz), FP.eq (.int .i64 (i : Int)), FP.eq (.pointer (some ⟨bt, offt + i, none⟩)), FP.eq (.int .u16 (y : Int)), FP.eq (.int .u16 (s : Int)), FP.eq (.int .i64 (s : Int)), FP.eq (.int .i64 (s : Int))] ?_ ?_
      · refine allFrom_cons ?_ ?_
        · intro a_ w_ hk_
          have h1 : a_.eval (.tmp 1) = .slice (some ⟨bt, offt, none⟩) sizes.length cz := hk_.old 1 (by kernel_rfl)
          have hx_ := hk_.ext
          clear hk_
          refine flow_plain rfl ?_
          exact gives_move rfl ⟨Below.refl _ _, h1⟩
        refine allFrom_cons ?_ ?_
        · intro a_ w_ hk_
          have h15 : a_.eval (.tmp 15) = .int .i64 (i : Int) := hk_.old 15 (by kernel_rfl)
          have hx_ := hk_.ext
          clear hk_
          refine flow_plain rfl ?_
          exact gives_move rfl ⟨Below.refl _ _, h15⟩
        refine allFrom_cons ?_ ?_
        · intro a_ w_ hk_
          have h60 : a_.eval (.tmp 60) = (.slice (some ⟨bt, offt, none⟩) sizes.length cz) := hk_.got 0 60 _ (by kernel_rfl) rfl rfl
          have h61 : a_.eval (.tmp 61) = (.int .i64 (i : Int)) := hk_.got 1 61 _ (by kernel_rfl) rfl rfl
          have hx_ := hk_.ext
          clear hk_
          refine flow_plain rfl ?_
          unfold gives
          have hc_ : ∀ v, a_.eval (.const v) = v := fun _ => rfl
          have hn_ : ∀ f, a_.eval (.func f) = .func (.func f) #[] #[] := fun _ => rfl
          generalize a_.eval = ρ_ at *
          go_simp
          exact ⟨Below.refl _ _, rfl⟩
        refine allFrom_cons ?_ ?_
        · intro a_ w_ hk_
          have h62 : a_.eval (.tmp 62) = (.pointer (some ⟨bt, offt + i, none⟩)) := hk_.got 2 62 _ (by kernel_rfl) rfl rfl
          have hx_ := hk_.ext
          clear hk_
          refine flow_plain rfl ?_
          unfold gives
          have hc_ : ∀ v, a_.eval (.const v) = v := fun _ => rfl
          have hn_ : ∀ f, a_.eval (.func f) = .func (.func f) #[] #[] := fun _ => rfl
          have hcell := (hx_.cell (p := ⟨bt, offt + i, none⟩) lbt).trans hcy
          generalize a_.eval = ρ_ at *
          go_simp
          exact ⟨Below.refl _ _, rfl⟩
        refine allFrom_cons ?_ ?_
        · intro a_ w_ hk_
          have h63 : a_.eval (.tmp 63) = (.int .u16 (y : Int)) := hk_.got 3 63 _ (by kernel_rfl) rfl rfl
          have hx_ := hk_.ext
          clear hk_
          refine flow_plain rfl ?_
          unfold gives
          have hc_ : ∀ v, a_.eval (.const v) = v := fun _ => rfl
          have hn_ : ∀ f, a_.eval (.func f) = .func (.func f) #[] #[] := fun _ => rfl
          generalize a_.eval = ρ_ at *
          go_simp
          exact ⟨Below.refl _ _, congrArg (Value.int _) HSI.out⟩
        refine allFrom_cons ?_ ?_
        · intro a_ w_ hk_
          have h64 : a_.eval (.tmp 64) = (.int .u16 (s : Int)) := hk_.got 4 64 _ (by kernel_rfl) rfl rfl
          have hx_ := hk_.ext
          clear hk_
          refine flow_plain rfl ?_
          unfold gives
          have hc_ : ∀ v, a_.eval (.const v) = v := fun _ => rfl
          have hn_ : ∀ f, a_.eval (.func f) = .func (.func f) #[] #[] := fun _ => rfl
          generalize a_.eval = ρ_ at *
          go_simp
          exact ⟨Below.refl _ _, congrArg (Value.int _) (i64_wrap (by omega) (by omega))⟩
        refine allFrom_cons ?_ ?_
        · intro a_ w_ hk_
          have h65 : a_.eval (.tmp 65) = (.int .i64 (s : Int)) := hk_.got 5 65 _ (by kernel_rfl) rfl rfl
          have hx_ := hk_.ext
          clear hk_
          refine flow_plain rfl ?_
          exact gives_assign rfl ⟨Below.refl _ _, h65⟩
        exact allFrom_nil
      intro f_ w_ hx_ hf_
      have h60 : f_ 60 = (.slice (some ⟨bt, offt, none⟩) sizes.length cz) := hf_ 0 60 _ (by decide) rfl rfl
      have h61 : f_ 61 = (.int .i64 (i : Int)) := hf_ 1 61 _ (by decide) rfl rfl
      have h62 : f_ 62 = (.pointer (some ⟨bt, offt + i, none⟩)) := hf_ 2 62 _ (by decide) rfl rfl
      have h63 : f_ 63 = (.int .u16 (y : Int)) := hf_ 3 63 _ (by decide) rfl rfl
      have h64 : f_ 64 = (.int .u16 (s : Int)) := hf_ 4 64 _ (by decide) rfl rfl
      have h65 : f_ 65 = (.int .i64 (s : Int)) := hf_ 5 65 _ (by decide) rfl rfl
      have h16 : f_ 16 = (.int .i64 (s : Int)) := hf_ 6 16 _ (by decide) rfl rfl
      simp only [mix, h60, h61, h62, h63, h64, h65, h16]
      clear h60 h61 h62 h63 h64 h65 h16
      clear hf_
      obtain ⟨wp, hwp⟩ : ∃ wp, wp = w_ := ⟨_, rfl⟩
      rw [← hwp] at hx_ ⊢
      clear hwp
      have hI2 := HI.out.next hx_
      clear HI hx_ hcy lbt hbt HSI
      have hzb : Blk (wp.alloc (.cells (zrow s (.int .u8 0)) tU8)) wp.heap.size tU8 (zrow s (.int .u8 0)) := Blk.new _ _ _
      have hba : Below wp.heap.size wp (wp.alloc (.cells (zrow s (.int .u8 0)) tU8)) := bx_alloc (Below.refl _ _) _
      have hb4 := bx_trans hI2.below hba
      have hl1 := hI2.loose
      have hs1 := hI2.size
      have hroom : D.loose.length + L.size * 256 < 1000000 := by omega
      have ZB := hid hzb
      have BA := hid hba
      have HI2 := hid hI2
      have hbsz := hb4.size
      have B4 := hid hb4
      clear hzb hba hI2 hb4
      by_cases hfit : u + (8 + s) ≤ 256 * k
      · have ha := cAppend _ (HI2.out.has.below BA.out HI2.out.below.size) HI2.out.calm hbsz hroom (b := zer s) (c := s) (fun W hx => zer_rd ZB.out hx (by decide)) (Nat.le_of_eq (zer_len s)) (by rw [zer_len]; omega) (by rw [zer_len, hs1, HI2.out.ub]; omega)
        rw [zer_len] at ha
        have HA := hid ha
        clear ha
        go_wp2_with fail
        refine HA.out.mono ?_
        rintro e w5 ⟨rfl, D1, hh5, r1, r2, r3, hx5⟩
        obtain ⟨L1, hL1⟩ : ∃ L1 : LS, L1 = { L with b := L.b ++ frameL (zer s), rows := L.rows ++ [zer s] } := ⟨_, rfl⟩
        rw [← hL1] at hh5
        obtain ⟨u1, hu1⟩ : ∃ u1, u1 = u + (8 + s) := ⟨_, rfl⟩
        obtain ⟨m1, hm1⟩ : ∃ m1, m1 = m + 1 := ⟨_, rfl⟩
        have hI5 : FullI wb g gl k (i + 1) D1 L1 u1 m1 w5 := ⟨hh5, r1, r2.trans HI2.out.n, by rw [hL1]; exact hs1, by rw [hL1]; exact HI2.out.turn, by omega, B4.out.trans hx5.below, by rw [hL1, hu1]; show (L.b ++ frameL (zer s)).length = _; rw [List.length_append, frameL_len, zer_len, HI2.out.ub], by rw [hL1, hm1]; show (L.rows ++ [zer s]).length = _; rw [List.length_append, HI2.out.mb]; rfl, by omega, fun r hr => by
          rw [hL1] at hr
          rcases List.mem_append.1 hr with hr | hr
          · exact HI2.out.short r hr
          · rw [List.mem_singleton.1 hr, zer_len]; omega⟩
        have HI5 := hid hI5
        clear hI5 hL1 hh5 r1 r2 r3 hx5 HA HI2 B4 ZB BA
        go_wp2_with fail
        refine wp_hold (wp_region_lit ?_)
        refine wp_flowSE [0, 1, 3, 7, 15, 31, 63, 127, 255, 511, 1023, 2047, 4095, 8191, 16383, 32767, 65535, 131071] 18 [false, false, false, false, false, false, false, false, false, false, false, false, false, false, false, false, false, false, false, false, false, false, false, false, false, false, false, false, false, false, false, false, false, false, false, false, false, false, false, false, false, false, false, false, false, false, false, false, false, false, false, false, false, false, false, false, false, false, false, false, false, false, false, false, false, false, false, false, false, false, true, true, true, true, true, true, true, true, true, true, true, true, true, true, true, true, true, true] (by kernel_rfl) (by kernel_rfl) (by kernel_rfl) [FP.eq (.int .i64 0), FP.eq (.bool true), FP.eq (.int .i64 (u : Int)), FP.eq (.int .i64 ((u : Int) + 8)), FP.eq (.int .i64 (s : Int)), FP.eq (.int .i64 ((u : Int) + 8 + (s : Int))), FP.eq (.int .i64 (k : Int)), FP.eq (.int .i64 (256 * (k : Int))), FP.eq (.bool true), FP.eq (.bool false), FP.eq (.bool false), FP.eq (.int .i64 0), FP.eq (.bool false), FP.eq (.bool false), FP.any, FP.any, FP.eq (.bool false), FP.eq (.bool false)] ?_ ?_
        · refine allFrom_cons ?_ ?_
          · intro a_ w_ hk_
            have h17 : a_.eval (.tmp 17) = .int .i64 0 := hk_.old 17 (by kernel_rfl)
            have hx_ := hk_.ext
            clear hk_
            refine flow_plain rfl ?_
            exact gives_move rfl ⟨Below.refl _ _, h17⟩
          refine allFrom_cons ?_ ?_
          · intro a_ w_ hk_
            have h70 : a_.eval (.tmp 70) = (.int .i64 0) := hk_.got 0 70 _ (by kernel_rfl) rfl rfl
            have hx_ := hk_.ext
            clear hk_
            refine flow_plain rfl ?_
            unfold gives
            have hc_ : ∀ v, a_.eval (.const v) = v := fun _ => rfl
            have hn_ : ∀ f, a_.eval (.func f) = .func (.func f) #[] #[] := fun _ => rfl
            generalize a_.eval = ρ_ at *
            go_simp
            exact ⟨Below.refl _ _, rfl⟩
          refine allFrom_cons ?_ ?_
          · intro a_ w_ hk_
            have h13 : a_.eval (.tmp 13) = .int .i64 (u : Int) := hk_.old 13 (by kernel_rfl)
            have hx_ := hk_.ext
            clear hk_
            refine flow_plain rfl ?_
            exact gives_move rfl ⟨Below.refl _ _, h13⟩
          refine allFrom_cons ?_ ?_
          · intro a_ w_ hk_
            have h72 : a_.eval (.tmp 72) = (.int .i64 (u : Int)) := hk_.got 2 72 _ (by kernel_rfl) rfl rfl
            have hx_ := hk_.ext
            clear hk_
            refine flow_plain rfl ?_
            unfold gives
            have hc_ : ∀ v, a_.eval (.const v) = v := fun _ => rfl
            have hn_ : ∀ f, a_.eval (.func f) = .func (.func f) #[] #[] := fun _ => rfl
            generalize a_.eval = ρ_ at *
            go_simp
            exact ⟨Below.refl _ _, congrArg (Value.int _) (i64_wrap (by omega) (by omega))⟩
          refine allFrom_cons ?_ ?_
          · intro a_ w_ hk_
            have h16 : a_.eval (.tmp 16) = .int .i64 (s : Int) := hk_.old 16 (by kernel_rfl)
            have hx_ := hk_.ext
            clear hk_
            refine flow_plain rfl ?_
            exact gives_move rfl ⟨Below.refl _ _, h16⟩
          refine allFrom_cons ?_ ?_
          · intro a_ w_ hk_
            have h73 : a_.eval (.tmp 73) = (.int .i64 ((u : Int) + 8)) := hk_.got 3 73 _ (by kernel_rfl) rfl rfl
            have h74 : a_.eval (.tmp 74) = (.int .i64 (s : Int)) := hk_.got 4 74 _ (by kernel_rfl) rfl rfl
            have hx_ := hk_.ext
            clear hk_
            refine flow_plain rfl ?_
            unfold gives
            have hc_ : ∀ v, a_.eval (.const v) = v := fun _ => rfl
            have hn_ : ∀ f, a_.eval (.func f) = .func (.func f) #[] #[] := fun _ => rfl
            generalize a_.eval = ρ_ at *
            go_simp
            exact ⟨Below.refl _ _, congrArg (Value.int _) (i64_wrap (by omega) (by omega))⟩
          refine allFrom_cons ?_ ?_
          · intro a_ w_ hk_
            have h8 : a_.eval (.tmp 8) = .int .i64 (k : Int) := hk_.old 8 (by kernel_rfl)
            have hx_ := hk_.ext
            clear hk_
            refine flow_plain rfl ?_
            exact gives_move rfl ⟨Below.refl _ _, h8⟩
          refine allFrom_cons ?_ ?_
          · intro a_ w_ hk_
            have h76 : a_.eval (.tmp 76) = (.int .i64 (k : Int)) := hk_.got 6 76 _ (by kernel_rfl) rfl rfl
            have hx_ := hk_.ext
            clear hk_
            refine flow_plain rfl ?_
            unfold gives
            have hc_ : ∀ v, a_.eval (.const v) = v := fun _ => rfl
            have hn_ : ∀ f, a_.eval (.func f) = .func (.func f) #[] #[] := fun _ => rfl
            generalize a_.eval = ρ_ at *
            go_simp
            exact ⟨Below.refl _ _, congrArg (Value.int _) (i64_wrap (by omega) (by omega))⟩
          refine allFrom_cons ?_ ?_
          · intro a_ w_ hk_
            have h75 : a_.eval (.tmp 75) = (.int .i64 ((u : Int) + 8 + (s : Int))) := hk_.got 5 75 _ (by kernel_rfl) rfl rfl
            have h77 : a_.eval (.tmp 77) = (.int .i64 (256 * (k : Int))) := hk_.got 7 77 _ (by kernel_rfl) rfl rfl
            have hx_ := hk_.ext
            clear hk_
            refine flow_plain rfl ?_
            unfold gives
            have hc_ : ∀ v, a_.eval (.const v) = v := fun _ => rfl
            have hn_ : ∀ f, a_.eval (.func f) = .func (.func f) #[] #[] := fun _ => rfl
            generalize a_.eval = ρ_ at *
            go_simp
            exact ⟨Below.refl _ _, congrArg Value.bool (decide_eq_true (by omega))⟩
          refine allFrom_cons ?_ ?_
          · intro a_ w_ hk_
            have h71 : a_.eval (.tmp 71) = (.bool true) := hk_.got 1 71 _ (by kernel_rfl) rfl rfl
            have h78 : a_.eval (.tmp 78) = (.bool true) := hk_.got 8 78 _ (by kernel_rfl) rfl rfl
            have hx_ := hk_.ext
            clear hk_
            refine flow_plain rfl ?_
            unfold gives
            have hc_ : ∀ v, a_.eval (.const v) = v := fun _ => rfl
            have hn_ : ∀ f, a_.eval (.func f) = .func (.func f) #[] #[] := fun _ => rfl
            generalize a_.eval = ρ_ at *
            go_simp
            exact ⟨Below.refl _ _, rfl⟩
          refine allFrom_cons ?_ ?_
          · intro a_ w_ hk_
            have h79 : a_.eval (.tmp 79) = (.bool false) := hk_.got 9 79 _ (by kernel_rfl) rfl rfl
            have hx_ := hk_.ext
            clear hk_
            refine flow_plain rfl ?_
            exact gives_move rfl ⟨Below.refl _ _, h79⟩
          refine allFrom_cons ?_ ?_
          · intro a_ w_ hk_
            have h17 : a_.eval (.tmp 17) = .int .i64 0 := hk_.old 17 (by kernel_rfl)
            have hg_ : a_.eval (.tmp 80) = .bool false := hk_.got 10 80 _ (by kernel_rfl) rfl rfl
            have hy_ := hk_.want 10 _ 80 false rfl rfl hg_
            have hx_ := hk_.ext
            clear hk_
            refine flow_want rfl hy_ ?_
            exact gives_move rfl ⟨Below.refl _ _, h17⟩
          refine allFrom_cons ?_ ?_
          · intro a_ w_ hk_
            have h81 : a_.eval (.tmp 81) = (.int .i64 0) := hk_.got 11 81 _ (by kernel_rfl) rfl rfl
            have hg_ : a_.eval (.tmp 80) = .bool false := hk_.got 10 80 _ (by kernel_rfl) rfl rfl
            have hy_ := hk_.want 10 _ 80 false rfl rfl hg_
            have hx_ := hk_.ext
            clear hk_
            refine flow_want rfl hy_ ?_
            unfold gives
            have hc_ : ∀ v, a_.eval (.const v) = v := fun _ => rfl
            have hn_ : ∀ f, a_.eval (.func f) = .func (.func f) #[] #[] := fun _ => rfl
            clear hy_ hg_
            generalize a_.eval = ρ_ at *
            go_simp
            exact ⟨Below.refl _ _, rfl⟩
          refine allFrom_cons ?_ ?_
          · intro a_ w_ hk_
            have h82 : a_.eval (.tmp 82) = (.bool false) := hk_.got 12 82 _ (by kernel_rfl) rfl rfl
            have hg_ : a_.eval (.tmp 80) = .bool false := hk_.got 10 80 _ (by kernel_rfl) rfl rfl
            have hy_ := hk_.want 10 _ 80 false rfl rfl hg_
            have hx_ := hk_.ext
            clear hk_
            refine flow_want rfl hy_ ?_
            exact gives_move rfl ⟨Below.refl _ _, h82⟩
          refine allFrom_cons ?_ ?_
          · intro a_ w_ hk_
            have h17 : a_.eval (.tmp 17) = .int .i64 0 := hk_.old 17 (by kernel_rfl)
            have hg_ : a_.eval (.tmp 83) = .bool false := hk_.got 13 83 _ (by kernel_rfl) rfl rfl
            have hy_ := hk_.want 13 _ 83 false rfl rfl hg_
            have hx_ := hk_.ext
            clear hk_
            exact flow_skip rfl hy_ (by decide) trivial
          refine allFrom_cons ?_ ?_
          · intro a_ w_ hk_
            have hg_ : a_.eval (.tmp 83) = .bool false := hk_.got 13 83 _ (by kernel_rfl) rfl rfl
            have hy_ := hk_.want 13 _ 83 false rfl rfl hg_
            have hx_ := hk_.ext
            clear hk_
            exact flow_skip rfl hy_ (by decide) trivial
          refine allFrom_cons ?_ ?_
          · intro a_ w_ hk_
            have h83 : a_.eval (.tmp 83) = (.bool false) := hk_.got 13 83 _ (by kernel_rfl) rfl rfl
            have hg_ : a_.eval (.tmp 80) = .bool false := hk_.got 10 80 _ (by kernel_rfl) rfl rfl
            have hy_ := hk_.want 10 _ 80 false rfl rfl hg_
            have hx_ := hk_.ext
            clear hk_
            refine flow_want rfl hy_ ?_
            exact gives_pick rfl h83 ⟨Below.refl _ _, rfl⟩
          refine allFrom_cons ?_ ?_
          · intro a_ w_ hk_
            have h80 : a_.eval (.tmp 80) = (.bool false) := hk_.got 10 80 _ (by kernel_rfl) rfl rfl
            have h86 : a_.eval (.tmp 86) = (.bool false) := hk_.got 16 86 _ (by kernel_rfl) rfl rfl
            have hx_ := hk_.ext
            clear hk_
            refine flow_plain rfl ?_
            exact gives_pick rfl h80 ⟨Below.refl _ _, h86⟩
          exact allFrom_nil
        intro f_ w_ hx_ hf_
        have h70 : f_ 70 = (.int .i64 0) := hf_ 0 70 _ (by decide) rfl rfl
        have h71 : f_ 71 = (.bool true) := hf_ 1 71 _ (by decide) rfl rfl
        have h72 : f_ 72 = (.int .i64 (u : Int)) := hf_ 2 72 _ (by decide) rfl rfl
        have h73 : f_ 73 = (.int .i64 ((u : Int) + 8)) := hf_ 3 73 _ (by decide) rfl rfl
        have h74 : f_ 74 = (.int .i64 (s : Int)) := hf_ 4 74 _ (by decide) rfl rfl
        have h75 : f_ 75 = (.int .i64 ((u : Int) + 8 + (s : Int))) := hf_ 5 75 _ (by decide) rfl rfl
        have h76 : f_ 76 = (.int .i64 (k : Int)) := hf_ 6 76 _ (by decide) rfl rfl
        have h77 : f_ 77 = (.int .i64 (256 * (k : Int))) := hf_ 7 77 _ (by decide) rfl rfl
        have h78 : f_ 78 = (.bool true) := hf_ 8 78 _ (by decide) rfl rfl
        have h79 : f_ 79 = (.bool false) := hf_ 9 79 _ (by decide) rfl rfl
        have h80 : f_ 80 = (.bool false) := hf_ 10 80 _ (by decide) rfl rfl
        have h81 : f_ 81 = (.int .i64 0) := hf_ 11 81 _ (by decide) rfl rfl
        have h82 : f_ 82 = (.bool false) := hf_ 12 82 _ (by decide) rfl rfl
        have h83 : f_ 83 = (.bool false) := hf_ 13 83 _ (by decide) rfl rfl
        have h86 : f_ 86 = (.bool false) := hf_ 16 86 _ (by decide) rfl rfl
        have h87 : f_ 87 = (.bool false) := hf_ 17 87 _ (by decide) rfl rfl
        simp only [mix, h70, h71, h72, h73, h74, h75, h76, h77, h78, h79, h80, h81, h82, h83, h86, h87]
        clear h70 h71 h72 h73 h74 h75 h76 h77 h78 h79 h80 h81 h82 h83 h86 h87
        clear hf_
        obtain ⟨w6, hw6⟩ : ∃ w6, w6 = w_ := ⟨_, rfl⟩
        rw [← hw6] at hx_ ⊢
        clear hw6
        have HJ := hid (HI5.out.next hx_)
        clear HI5 hx_
        go_wp2_with fail
        refine wp_hold (wp_region_lit ?_)
        refine wp_flowSE [0, 1, 3, 7, 15] 5 [false, false, false, false, false, false, false, false, false, false, false, false, false, true, false, false, false, false, false, false, false, false, false, false, false, false, false, false, false, false, false, false, false, false, false, false, false, false, false, false, false, false, false, false, false, false, false, false, false, false, false, false, false, false, false, false, false, false, false, false, false, false, false, false, false, false, false, false, false, false, false, false, false, false, false, false, false, false, false, false, false, false, false, false, false, false, false, false, false, false, true, true, true, true] (by kernel_rfl) (by kernel_rfl) (by kernel_rfl) [FP.eq (.int .i64 (u : Int)), FP.eq (.int .i64 (s : Int)), FP.eq (.int .i64 (8 + (s : Int))), FP.eq (.int .i64 (u1 : Int)), FP.eq (.int .i64 (u1 : Int))] ?_ ?_
        · refine allFrom_cons ?_ ?_
          · intro a_ w_ hk_
            have h13 : a_.eval (.tmp 13) = .int .i64 (u : Int) := hk_.old 13 (by kernel_rfl)
            have hx_ := hk_.ext
            clear hk_
            refine flow_plain rfl ?_
            exact gives_move rfl ⟨Below.refl _ _, h13⟩
          refine allFrom_cons ?_ ?_
          · intro a_ w_ hk_
            have h16 : a_.eval (.tmp 16) = .int .i64 (s : Int) := hk_.old 16 (by kernel_rfl)
            have hx_ := hk_.ext
            clear hk_
            refine flow_plain rfl ?_
            exact gives_move rfl ⟨Below.refl _ _, h16⟩
          refine allFrom_cons ?_ ?_
          · intro a_ w_ hk_
            have h91 : a_.eval (.tmp 91) = (.int .i64 (s : Int)) := hk_.got 1 91 _ (by kernel_rfl) rfl rfl
            have hx_ := hk_.ext
            clear hk_
            refine flow_plain rfl ?_
            unfold gives
            have hc_ : ∀ v, a_.eval (.const v) = v := fun _ => rfl
            have hn_ : ∀ f, a_.eval (.func f) = .func (.func f) #[] #[] := fun _ => rfl
            generalize a_.eval = ρ_ at *
            go_simp
            exact ⟨Below.refl _ _, congrArg (Value.int _) (i64_wrap (by omega) (by omega))⟩
          refine allFrom_cons ?_ ?_
          · intro a_ w_ hk_
            have h90 : a_.eval (.tmp 90) = (.int .i64 (u : Int)) := hk_.got 0 90 _ (by kernel_rfl) rfl rfl
            have h92 : a_.eval (.tmp 92) = (.int .i64 (8 + (s : Int))) := hk_.got 2 92 _ (by kernel_rfl) rfl rfl
            have hx_ := hk_.ext
            clear hk_
            refine flow_plain rfl ?_
            unfold gives
            have hc_ : ∀ v, a_.eval (.const v) = v := fun _ => rfl
            have hn_ : ∀ f, a_.eval (.func f) = .func (.func f) #[] #[] := fun _ => rfl
            generalize a_.eval = ρ_ at *
            go_simp
            exact ⟨Below.refl _ _, congrArg (Value.int _) ((i64_wrap (by omega) (by omega)).trans (by omega))⟩
          refine allFrom_cons ?_ ?_
          · intro a_ w_ hk_
            have h93 : a_.eval (.tmp 93) = (.int .i64 (u1 : Int)) := hk_.got 3 93 _ (by kernel_rfl) rfl rfl
            have hx_ := hk_.ext
            clear hk_
            refine flow_plain rfl ?_
            exact gives_assign rfl ⟨Below.refl _ _, h93⟩
          exact allFrom_nil
        intro f_ w_ hx_ hf_
        have h90 : f_ 90 = (.int .i64 (u : Int)) := hf_ 0 90 _ (by decide) rfl rfl
        have h91 : f_ 91 = (.int .i64 (s : Int)) := hf_ 1 91 _ (by decide) rfl rfl
        have h92 : f_ 92 = (.int .i64 (8 + (s : Int))) := hf_ 2 92 _ (by decide) rfl rfl
        have h93 : f_ 93 = (.int .i64 (u1 : Int)) := hf_ 3 93 _ (by decide) rfl rfl
        have h13 : f_ 13 = (.int .i64 (u1 : Int)) := hf_ 4 13 _ (by decide) rfl rfl
        simp only [mix, h90, h91, h92, h93, h13]
        clear h90 h91 h92 h93 h13
        clear hf_
        obtain ⟨w7, hw7⟩ : ∃ w7, w7 = w_ := ⟨_, rfl⟩
        rw [← hw7] at hx_ ⊢
        clear hw7
        have HK := hid (HJ.out.next hx_)
        clear HJ hx_
        go_wp2_with fail
        refine wp_hold (wp_region_lit ?_)
        refine wp_flowSE [0, 1, 3] 3 [false, false, false, false, false, false, false, false, false, false, false, false, false, false, true, false, false, false, false, false, false, false, false, false, false, false, false, false, false, false, false, false, false, false, false, false, false, false, false, false, false, false, false, false, false, false, false, false, false, false, false, false, false, false, false, false, false, false, false, false, false, false, false, false, false, false, false, false, false, false, false, false, false, false, false, false, false, false, false, false, false, false, false, false, false, false, false, false, false, false, false, false, false, false, true, true] (by kernel_rfl) (by kernel_rfl) (by kernel_rfl) [FP.eq (.int .i64 (m : Int)), FP.eq (.int .i64 (m1 : Int)), FP.eq (.int .i64 (m1 : Int))] ?_ ?_
        · refine allFrom_cons ?_ ?_
          · intro a_ w_ hk_
            have h14 : a_.eval (.tmp 14) = .int .i64 (m : Int) := hk_.old 14 (by kernel_rfl)
            have hx_ := hk_.ext
            clear hk_
            refine flow_plain rfl ?_
            exact gives_move rfl ⟨Below.refl _ _, h14⟩
          refine allFrom_cons ?_ ?_
          · intro a_ w_ hk_
            have h94 : a_.eval (.tmp 94) = (.int .i64 (m : Int)) := hk_.got 0 94 _ (by kernel_rfl) rfl rfl
            have hx_ := hk_.ext
            clear hk_
            refine flow_plain rfl ?_
            unfold gives
            have hc_ : ∀ v, a_.eval (.const v) = v := fun _ => rfl
            have hn_ : ∀ f, a_.eval (.func f) = .func (.func f) #[] #[] := fun _ => rfl
            generalize a_.eval = ρ_ at *
            go_simp
            exact ⟨Below.refl _ _, congrArg (Value.int _) ((i64_wrap (by omega) (by omega)).trans (by omega))⟩
          refine allFrom_cons ?_ ?_
          · intro a_ w_ hk_
            have h95 : a_.eval (.tmp 95) = (.int .i64 (m1 : Int)) := hk_.got 1 95 _ (by kernel_rfl) rfl rfl
            have hx_ := hk_.ext
            clear hk_
            refine flow_plain rfl ?_
            exact gives_assign rfl ⟨Below.refl _ _, h95⟩
          exact allFrom_nil
        intro f_ w_ hx_ hf_
        have h94 : f_ 94 = (.int .i64 (m : Int)) := hf_ 0 94 _ (by decide) rfl rfl
        have h95 : f_ 95 = (.int .i64 (m1 : Int)) := hf_ 1 95 _ (by decide) rfl rfl
        have h14 : f_ 14 = (.int .i64 (m1 : Int)) := hf_ 2 14 _ (by decide) rfl rfl
        simp only [mix, h94, h95, h14]
        clear h94 h95 h14
        clear hf_
        obtain ⟨w8, hw8⟩ : ∃ w8, w8 = w_ := ⟨_, rfl⟩
        rw [← hw8] at hx_ ⊢
        clear hw8
        have HI6 := hid (HK.out.next hx_)
        have hum := HI6.out.uk
        clear HK hx_ hub hui hmi hu1 hm1 hl1 hs1
        go_wp2_with fail
        refine wp_hold (wp_region_lit ?_)
        refine wp_flowSE [0, 1, 3, 7, 15, 31, 63, 127, 255, 511, 1023, 2047, 4095, 8191] 14 [false, false, false, false, false, false, false, false, false, false, false, false, false, false, false, false, false, false, false, false, false, false, false, false, false, false, false, false, false, false, false, false, false, false, false, false, false, false, false, false, false, false, false, false, false, false, false, false, false, false, false, false, false, false, false, false, false, false, false, false, false, false, false, false, false, false, false, false, false, false, false, false, false, false, false, false, false, false, false, false, false, false, false, false, false, false, false, false, false, false, false, false, false, false, false, false, true, true, true, true, true, true, true, true, true, true, true, true, true, true] (by kernel_rfl) (by kernel_rfl) (by kernel_rfl) [FP.eq (.pointer (some ⟨gl, 0, none⟩)), FP.eq (.int .i64 (256 * (k : Int) - (u1 : Int))), FP.eq (.int .i64 (k : Int)), FP.eq (.int .i64 (256 * (k : Int))), FP.eq (.int .i64 (u1 : Int)), FP.eq (.int .i64 (256 * (k : Int) - (u1 : Int))), FP.eq (.bool false), FP.eq (.bool false), FP.eq (.pointer (some ⟨gl, 0, none⟩)), FP.rows L1.rows, FP.eq (.int .i64 (m1 : Int)), FP.eq (.int .i64 (m1 : Int)), FP.eq (.bool false), FP.eq (.bool false)] ?_ ?_
        · refine allFrom_cons ?_ ?_
          · intro a_ w_ hk_
            have h11 : a_.eval (.tmp 11) = .pointer (some ⟨gl, 0, none⟩) := hk_.old 11 (by kernel_rfl)
            have hx_ := hk_.ext
            clear hk_
            refine flow_plain rfl ?_
            exact gives_move rfl ⟨Below.refl _ _, h11⟩
          refine allFrom_cons ?_ ?_
          · intro a_ w_ hk_
            have h96 : a_.eval (.tmp 96) = (.pointer (some ⟨gl, 0, none⟩)) := hk_.got 0 96 _ (by kernel_rfl) rfl rfl
            have hx_ := hk_.ext
            clear hk_
            refine flow_plain rfl ?_
            unfold gives
            have hc_ : ∀ v, a_.eval (.const v) = v := fun _ => rfl
            have hn_ : ∀ f, a_.eval (.func f) = .func (.func f) #[] #[] := fun _ => rfl
            generalize a_.eval = ρ_ at *
            go_simp
            exact (aFree w_ (HI6.out.has.log.below hx_ HI6.out.below.size) HI6.out.has.size).mono fun e w' ⟨h1, h2⟩ => ⟨_, h1, h2, congrArg (Value.int _) (by have h1 := HI6.out.size; have h2 := HI6.out.ub; have h3 := HI6.out.uk; rw [h1, h2]; omega)⟩
          refine allFrom_cons ?_ ?_
          · intro a_ w_ hk_
            have h8 : a_.eval (.tmp 8) = .int .i64 (k : Int) := hk_.old 8 (by kernel_rfl)
            have hx_ := hk_.ext
            clear hk_
            refine flow_plain rfl ?_
            exact gives_move rfl ⟨Below.refl _ _, h8⟩
          refine allFrom_cons ?_ ?_
          · intro a_ w_ hk_
            have h98 : a_.eval (.tmp 98) = (.int .i64 (k : Int)) := hk_.got 2 98 _ (by kernel_rfl) rfl rfl
            have hx_ := hk_.ext
            clear hk_
            refine flow_plain rfl ?_
            unfold gives
            have hc_ : ∀ v, a_.eval (.const v) = v := fun _ => rfl
            have hn_ : ∀ f, a_.eval (.func f) = .func (.func f) #[] #[] := fun _ => rfl
            generalize a_.eval = ρ_ at *
            go_simp
            exact ⟨Below.refl _ _, congrArg (Value.int _) (i64_wrap (by omega) (by omega))⟩
          refine allFrom_cons ?_ ?_
          · intro a_ w_ hk_
            have h13 : a_.eval (.tmp 13) = .int .i64 (u1 : Int) := hk_.old 13 (by kernel_rfl)
            have hx_ := hk_.ext
            clear hk_
            refine flow_plain rfl ?_
            exact gives_move rfl ⟨Below.refl _ _, h13⟩
          refine allFrom_cons ?_ ?_
          · intro a_ w_ hk_
            have h99 : a_.eval (.tmp 99) = (.int .i64 (256 * (k : Int))) := hk_.got 3 99 _ (by kernel_rfl) rfl rfl
            have h100 : a_.eval (.tmp 100) = (.int .i64 (u1 : Int)) := hk_.got 4 100 _ (by kernel_rfl) rfl rfl
            have hx_ := hk_.ext
            clear hk_
            refine flow_plain rfl ?_
            unfold gives
            have hc_ : ∀ v, a_.eval (.const v) = v := fun _ => rfl
            have hn_ : ∀ f, a_.eval (.func f) = .func (.func f) #[] #[] := fun _ => rfl
            generalize a_.eval = ρ_ at *
            go_simp
            exact ⟨Below.refl _ _, congrArg (Value.int _) (i64_wrap (by have h3 := HI6.out.uk; omega) (by omega))⟩
          refine allFrom_cons ?_ ?_
          · intro a_ w_ hk_
            have h97 : a_.eval (.tmp 97) = (.int .i64 (256 * (k : Int) - (u1 : Int))) := hk_.got 1 97 _ (by kernel_rfl) rfl rfl
            have h101 : a_.eval (.tmp 101) = (.int .i64 (256 * (k : Int) - (u1 : Int))) := hk_.got 5 101 _ (by kernel_rfl) rfl rfl
            have hx_ := hk_.ext
            clear hk_
            refine flow_plain rfl ?_
            unfold gives
            have hc_ : ∀ v, a_.eval (.const v) = v := fun _ => rfl
            have hn_ : ∀ f, a_.eval (.func f) = .func (.func f) #[] #[] := fun _ => rfl
            generalize a_.eval = ρ_ at *
            go_simp
            exact ⟨Below.refl _ _, rfl⟩
          refine allFrom_cons ?_ ?_
          · intro a_ w_ hk_
            have h102 : a_.eval (.tmp 102) = (.bool false) := hk_.got 6 102 _ (by kernel_rfl) rfl rfl
            have hx_ := hk_.ext
            clear hk_
            refine flow_plain rfl ?_
            exact gives_move rfl ⟨Below.refl _ _, h102⟩
          refine allFrom_cons ?_ ?_
          · intro a_ w_ hk_
            have h11 : a_.eval (.tmp 11) = .pointer (some ⟨gl, 0, none⟩) := hk_.old 11 (by kernel_rfl)
            have hg_ : a_.eval (.tmp 103) = .bool false := hk_.got 7 103 _ (by kernel_rfl) rfl rfl
            have hy_ := hk_.want 7 _ 103 false rfl rfl hg_
            have hx_ := hk_.ext
            clear hk_
            refine flow_want rfl hy_ ?_
            exact gives_move rfl ⟨Below.refl _ _, h11⟩
          refine allFrom_cons ?_ ?_
          · intro a_ w_ hk_
            have h104 : a_.eval (.tmp 104) = (.pointer (some ⟨gl, 0, none⟩)) := hk_.got 8 104 _ (by kernel_rfl) rfl rfl
            have hg_ : a_.eval (.tmp 103) = .bool false := hk_.got 7 103 _ (by kernel_rfl) rfl rfl
            have hy_ := hk_.want 7 _ 103 false rfl rfl hg_
            have hx_ := hk_.ext
            clear hk_
            refine flow_want rfl hy_ ?_
            unfold gives
            have hc_ : ∀ v, a_.eval (.const v) = v := fun _ => rfl
            have hn_ : ∀ f, a_.eval (.func f) = .func (.func f) #[] #[] := fun _ => rfl
            clear hy_ hg_
            generalize a_.eval = ρ_ at *
            go_simp
            exact (records_V w_ (HI6.out.has.log.below hx_ HI6.out.below.size) HI6.out.has.size).mono fun e w' ⟨v, h1, h2, h3⟩ => ⟨v, h1, h3, h2⟩
          refine allFrom_cons ?_ ?_
          · intro a_ w_ hk_
            have h105 : (FP.rows L1.rows).p (a_.eval (.tmp 105)) w_ := hk_.got 9 105 _ (by kernel_rfl) rfl rfl
            have hg_ : a_.eval (.tmp 103) = .bool false := hk_.got 7 103 _ (by kernel_rfl) rfl rfl
            have hy_ := hk_.want 7 _ 103 false rfl rfl hg_
            have hx_ := hk_.ext
            clear hk_
            refine flow_want rfl hy_ ?_
            unfold gives
            have hc_ : ∀ v, a_.eval (.const v) = v := fun _ => rfl
            have hn_ : ∀ f, a_.eval (.func f) = .func (.func f) #[] #[] := fun _ => rfl
            clear hy_ hg_
            obtain ⟨A105, c105, h105, r105⟩ := h105
            generalize a_.eval = ρ_ at *
            go_simp
            exact ⟨Below.refl _ _, by rw [HI6.out.mb]; rfl⟩
          refine allFrom_cons ?_ ?_
          · intro a_ w_ hk_
            have h14 : a_.eval (.tmp 14) = .int .i64 (m1 : Int) := hk_.old 14 (by kernel_rfl)
            have hg_ : a_.eval (.tmp 103) = .bool false := hk_.got 7 103 _ (by kernel_rfl) rfl rfl
            have hy_ := hk_.want 7 _ 103 false rfl rfl hg_
            have hx_ := hk_.ext
            clear hk_
            refine flow_want rfl hy_ ?_
            exact gives_move rfl ⟨Below.refl _ _, h14⟩
          refine allFrom_cons ?_ ?_
          · intro a_ w_ hk_
            have h106 : a_.eval (.tmp 106) = (.int .i64 (m1 : Int)) := hk_.got 10 106 _ (by kernel_rfl) rfl rfl
            have h107 : a_.eval (.tmp 107) = (.int .i64 (m1 : Int)) := hk_.got 11 107 _ (by kernel_rfl) rfl rfl
            have hg_ : a_.eval (.tmp 103) = .bool false := hk_.got 7 103 _ (by kernel_rfl) rfl rfl
            have hy_ := hk_.want 7 _ 103 false rfl rfl hg_
            have hx_ := hk_.ext
            clear hk_
            refine flow_want rfl hy_ ?_
            unfold gives
            have hc_ : ∀ v, a_.eval (.const v) = v := fun _ => rfl
            have hn_ : ∀ f, a_.eval (.func f) = .func (.func f) #[] #[] := fun _ => rfl
            clear hy_ hg_
            generalize a_.eval = ρ_ at *
            go_simp
            exact ⟨Below.refl _ _, rfl⟩
          refine allFrom_cons ?_ ?_
          · intro a_ w_ hk_
            have h103 : a_.eval (.tmp 103) = (.bool false) := hk_.got 7 103 _ (by kernel_rfl) rfl rfl
            have h108 : a_.eval (.tmp 108) = (.bool false) := hk_.got 12 108 _ (by kernel_rfl) rfl rfl
            have hx_ := hk_.ext
            clear hk_
            refine flow_plain rfl ?_
            exact gives_pick rfl h103 ⟨Below.refl _ _, h108⟩
          exact allFrom_nil
        intro f_ w_ hx_ hf_
        have h96 : f_ 96 = (.pointer (some ⟨gl, 0, none⟩)) := hf_ 0 96 _ (by decide) rfl rfl
        have h97 : f_ 97 = (.int .i64 (256 * (k : Int) - (u1 : Int))) := hf_ 1 97 _ (by decide) rfl rfl
        have h98 : f_ 98 = (.int .i64 (k : Int)) := hf_ 2 98 _ (by decide) rfl rfl
        have h99 : f_ 99 = (.int .i64 (256 * (k : Int))) := hf_ 3 99 _ (by decide) rfl rfl
        have h100 : f_ 100 = (.int .i64 (u1 : Int)) := hf_ 4 100 _ (by decide) rfl rfl
        have h101 : f_ 101 = (.int .i64 (256 * (k : Int) - (u1 : Int))) := hf_ 5 101 _ (by decide) rfl rfl
        have h102 : f_ 102 = (.bool false) := hf_ 6 102 _ (by decide) rfl rfl
        have h103 : f_ 103 = (.bool false) := hf_ 7 103 _ (by decide) rfl rfl
        have h104 : f_ 104 = (.pointer (some ⟨gl, 0, none⟩)) := hf_ 8 104 _ (by decide) rfl rfl
        have h105 : (FP.rows L1.rows).p (f_ 105) w_ := hf_ 9 105 _ (by decide) rfl rfl
        have h106 : f_ 106 = (.int .i64 (m1 : Int)) := hf_ 10 106 _ (by decide) rfl rfl
        have h107 : f_ 107 = (.int .i64 (m1 : Int)) := hf_ 11 107 _ (by decide) rfl rfl
        have h108 : f_ 108 = (.bool false) := hf_ 12 108 _ (by decide) rfl rfl
        have h109 : f_ 109 = (.bool false) := hf_ 13 109 _ (by decide) rfl rfl
        simp only [mix, h96, h97, h98, h99, h100, h101, h102, h103, h104, h106, h107, h108, h109]
        clear h96 h97 h98 h99 h100 h101 h102 h103 h104 h106 h107 h108 h109
        clear hf_
        go_wp2_with fail
        refine ⟨⟨i + 1, u1, m1, D1, L1, hlt, by push_cast; rfl, rfl, rfl, HI6.out.next hx_⟩, by show sizes.length - ((i : Int) + 1).toNat < sizes.length - (i : Int).toNat; omega⟩
      · have ha := cAppendNo _ (HI2.out.has.below BA.out HI2.out.below.size) hbsz hroom (b := zer s) (c := s) (fun W hx => zer_rd ZB.out hx (by decide)) (Nat.le_of_eq (zer_len s)) (by rw [zer_len]; omega) (.inr (by rw [zer_len, hs1, HI2.out.ub]; omega))
        rw [zer_len, if_neg (by omega)] at ha
        have HA := hid ha
        clear ha
        go_wp2_with fail
        refine HA.out.mono ?_
        rintro e w5 ⟨rfl, hh5, hx5⟩
        have hI5 : FullI wb g gl k (i + 1) D L u m w5 := ⟨hh5, HI2.out.calm, HI2.out.n, hs1, HI2.out.turn, by omega, B4.out.trans hx5.below, HI2.out.ub, HI2.out.mb, by omega, HI2.out.short⟩
        have HI5 := hid hI5
        clear hI5 hh5 hx5 HA HI2 B4 ZB BA
        go_wp2_with fail
        refine wp_hold (wp_region_lit ?_)
        refine wp_flowSE [0, 1, 3, 7, 15, 31, 63, 127, 255, 511, 1023, 2047, 4095, 8191, 16383, 32767, 65535, 131071] 18 [false, false, false, false, false, false, false, false, false, false, false, false, false, false, false, false, false, false, false, false, false, false, false, false, false, false, false, false, false, false, false, false, false, false, false, false, false, false, false, false, false, false, false, false, false, false, false, false, false, false, false, false, false, false, false, false, false, false, false, false, false, false, false, false, false, false, false, false, false, false, true, true, true, true, true, true, true, true, true, true, true, true, true, true, true, true, true, true] (by kernel_rfl) (by kernel_rfl) (by kernel_rfl) [FP.eq (.int .i64 31), FP.eq (.bool false), FP.eq (.int .i64 (u : Int)), FP.eq (.int .i64 ((u : Int) + 8)), FP.eq (.int .i64 (s : Int)), FP.eq (.int .i64 ((u : Int) + 8 + (s : Int))), FP.eq (.int .i64 (k : Int)), FP.eq (.int .i64 (256 * (k : Int))), FP.eq (.bool false), FP.eq (.bool false), FP.eq (.bool false), FP.eq (.int .i64 31), FP.eq (.bool true), FP.eq (.bool true), FP.eq (.int .i64 31), FP.eq (.bool false), FP.eq (.bool false), FP.eq (.bool false)] ?_ ?_
        · refine allFrom_cons ?_ ?_
          · intro a_ w_ hk_
            have h17 : a_.eval (.tmp 17) = .int .i64 31 := hk_.old 17 (by kernel_rfl)
            have hx_ := hk_.ext
            clear hk_
            refine flow_plain rfl ?_
            exact gives_move rfl ⟨Below.refl _ _, h17⟩
          refine allFrom_cons ?_ ?_
          · intro a_ w_ hk_
            have h70 : a_.eval (.tmp 70) = (.int .i64 31) := hk_.got 0 70 _ (by kernel_rfl) rfl rfl
            have hx_ := hk_.ext
            clear hk_
            refine flow_plain rfl ?_
            unfold gives
            have hc_ : ∀ v, a_.eval (.const v) = v := fun _ => rfl
            have hn_ : ∀ f, a_.eval (.func f) = .func (.func f) #[] #[] := fun _ => rfl
            generalize a_.eval = ρ_ at *
            go_simp
            exact ⟨Below.refl _ _, rfl⟩
          refine allFrom_cons ?_ ?_
          · intro a_ w_ hk_
            have h13 : a_.eval (.tmp 13) = .int .i64 (u : Int) := hk_.old 13 (by kernel_rfl)
            have hx_ := hk_.ext
            clear hk_
            refine flow_plain rfl ?_
            exact gives_move rfl ⟨Below.refl _ _, h13⟩
          refine allFrom_cons ?_ ?_
          · intro a_ w_ hk_
            have h72 : a_.eval (.tmp 72) = (.int .i64 (u : Int)) := hk_.got 2 72 _ (by kernel_rfl) rfl rfl
            have hx_ := hk_.ext
            clear hk_
            refine flow_plain rfl ?_
            unfold gives
            have hc_ : ∀ v, a_.eval (.const v) = v := fun _ => rfl
            have hn_ : ∀ f, a_.eval (.func f) = .func (.func f) #[] #[] := fun _ => rfl
            generalize a_.eval = ρ_ at *
            go_simp
            exact ⟨Below.refl _ _, congrArg (Value.int _) (i64_wrap (by omega) (by omega))⟩
          refine allFrom_cons ?_ ?_
          · intro a_ w_ hk_
            have h16 : a_.eval (.tmp 16) = .int .i64 (s : Int) := hk_.old 16 (by kernel_rfl)
            have hx_ := hk_.ext
            clear hk_
            refine flow_plain rfl ?_
            exact gives_move rfl ⟨Below.refl _ _, h16⟩
          refine allFrom_cons ?_ ?_
          · intro a_ w_ hk_
            have h73 : a_.eval (.tmp 73) = (.int .i64 ((u : Int) + 8)) := hk_.got 3 73 _ (by kernel_rfl) rfl rfl
            have h74 : a_.eval (.tmp 74) = (.int .i64 (s : Int)) := hk_.got 4 74 _ (by kernel_rfl) rfl rfl
            have hx_ := hk_.ext
            clear hk_
            refine flow_plain rfl ?_
            unfold gives
            have hc_ : ∀ v, a_.eval (.const v) = v := fun _ => rfl
            have hn_ : ∀ f, a_.eval (.func f) = .func (.func f) #[] #[] := fun _ => rfl
            generalize a_.eval = ρ_ at *
            go_simp
            exact ⟨Below.refl _ _, congrArg (Value.int _) (i64_wrap (by omega) (by omega))⟩
          refine allFrom_cons ?_ ?_
          · intro a_ w_ hk_
            have h8 : a_.eval (.tmp 8) = .int .i64 (k : Int) := hk_.old 8 (by kernel_rfl)
            have hx_ := hk_.ext
            clear hk_
            refine flow_plain rfl ?_
            exact gives_move rfl ⟨Below.refl _ _, h8⟩
          refine allFrom_cons ?_ ?_
          · intro a_ w_ hk_
            have h76 : a_.eval (.tmp 76) = (.int .i64 (k : Int)) := hk_.got 6 76 _ (by kernel_rfl) rfl rfl
            have hx_ := hk_.ext
            clear hk_
            refine flow_plain rfl ?_
            unfold gives
            have hc_ : ∀ v, a_.eval (.const v) = v := fun _ => rfl
            have hn_ : ∀ f, a_.eval (.func f) = .func (.func f) #[] #[] := fun _ => rfl
            generalize a_.eval = ρ_ at *
            go_simp
            exact ⟨Below.refl _ _, congrArg (Value.int _) (i64_wrap (by omega) (by omega))⟩
          refine allFrom_cons ?_ ?_
          · intro a_ w_ hk_
            have h75 : a_.eval (.tmp 75) = (.int .i64 ((u : Int) + 8 + (s : Int))) := hk_.got 5 75 _ (by kernel_rfl) rfl rfl
            have h77 : a_.eval (.tmp 77) = (.int .i64 (256 * (k : Int))) := hk_.got 7 77 _ (by kernel_rfl) rfl rfl
            have hx_ := hk_.ext
            clear hk_
            refine flow_plain rfl ?_
            unfold gives
            have hc_ : ∀ v, a_.eval (.const v) = v := fun _ => rfl
            have hn_ : ∀ f, a_.eval (.func f) = .func (.func f) #[] #[] := fun _ => rfl
            generalize a_.eval = ρ_ at *
            go_simp
            exact ⟨Below.refl _ _, congrArg Value.bool (decide_eq_false (by omega))⟩
          refine allFrom_cons ?_ ?_
          · intro a_ w_ hk_
            have h71 : a_.eval (.tmp 71) = (.bool false) := hk_.got 1 71 _ (by kernel_rfl) rfl rfl
            have h78 : a_.eval (.tmp 78) = (.bool false) := hk_.got 8 78 _ (by kernel_rfl) rfl rfl
            have hx_ := hk_.ext
            clear hk_
            refine flow_plain rfl ?_
            unfold gives
            have hc_ : ∀ v, a_.eval (.const v) = v := fun _ => rfl
            have hn_ : ∀ f, a_.eval (.func f) = .func (.func f) #[] #[] := fun _ => rfl
            generalize a_.eval = ρ_ at *
            go_simp
            exact ⟨Below.refl _ _, rfl⟩
          refine allFrom_cons ?_ ?_
          · intro a_ w_ hk_
            have h79 : a_.eval (.tmp 79) = (.bool false) := hk_.got 9 79 _ (by kernel_rfl) rfl rfl
            have hx_ := hk_.ext
            clear hk_
            refine flow_plain rfl ?_
            exact gives_move rfl ⟨Below.refl _ _, h79⟩
          refine allFrom_cons ?_ ?_
          · intro a_ w_ hk_
            have h17 : a_.eval (.tmp 17) = .int .i64 31 := hk_.old 17 (by kernel_rfl)
            have hg_ : a_.eval (.tmp 80) = .bool false := hk_.got 10 80 _ (by kernel_rfl) rfl rfl
            have hy_ := hk_.want 10 _ 80 false rfl rfl hg_
            have hx_ := hk_.ext
            clear hk_
            refine flow_want rfl hy_ ?_
            exact gives_move rfl ⟨Below.refl _ _, h17⟩
          refine allFrom_cons ?_ ?_
          · intro a_ w_ hk_
            have h81 : a_.eval (.tmp 81) = (.int .i64 31) := hk_.got 11 81 _ (by kernel_rfl) rfl rfl
            have hg_ : a_.eval (.tmp 80) = .bool false := hk_.got 10 80 _ (by kernel_rfl) rfl rfl
            have hy_ := hk_.want 10 _ 80 false rfl rfl hg_
            have hx_ := hk_.ext
            clear hk_
            refine flow_want rfl hy_ ?_
            unfold gives
            have hc_ : ∀ v, a_.eval (.const v) = v := fun _ => rfl
            have hn_ : ∀ f, a_.eval (.func f) = .func (.func f) #[] #[] := fun _ => rfl
            clear hy_ hg_
            generalize a_.eval = ρ_ at *
            go_simp
            exact ⟨Below.refl _ _, rfl⟩
          refine allFrom_cons ?_ ?_
          · intro a_ w_ hk_
            have h82 : a_.eval (.tmp 82) = (.bool true) := hk_.got 12 82 _ (by kernel_rfl) rfl rfl
            have hg_ : a_.eval (.tmp 80) = .bool false := hk_.got 10 80 _ (by kernel_rfl) rfl rfl
            have hy_ := hk_.want 10 _ 80 false rfl rfl hg_
            have hx_ := hk_.ext
            clear hk_
            refine flow_want rfl hy_ ?_
            exact gives_move rfl ⟨Below.refl _ _, h82⟩
          refine allFrom_cons ?_ ?_
          · intro a_ w_ hk_
            have h17 : a_.eval (.tmp 17) = .int .i64 31 := hk_.old 17 (by kernel_rfl)
            have hg_ : a_.eval (.tmp 83) = .bool true := hk_.got 13 83 _ (by kernel_rfl) rfl rfl
            have hy_ := hk_.want 13 _ 83 true rfl rfl hg_
            have hx_ := hk_.ext
            clear hk_
            refine flow_want rfl hy_ ?_
            exact gives_move rfl ⟨Below.refl _ _, h17⟩
          refine allFrom_cons ?_ ?_
          · intro a_ w_ hk_
            have h84 : a_.eval (.tmp 84) = (.int .i64 31) := hk_.got 14 84 _ (by kernel_rfl) rfl rfl
            have hg_ : a_.eval (.tmp 83) = .bool true := hk_.got 13 83 _ (by kernel_rfl) rfl rfl
            have hy_ := hk_.want 13 _ 83 true rfl rfl hg_
            have hx_ := hk_.ext
            clear hk_
            refine flow_want rfl hy_ ?_
            unfold gives
            have hc_ : ∀ v, a_.eval (.const v) = v := fun _ => rfl
            have hn_ : ∀ f, a_.eval (.func f) = .func (.func f) #[] #[] := fun _ => rfl
            clear hy_ hg_
            generalize a_.eval = ρ_ at *
            go_simp
            exact ⟨Below.refl _ _, rfl⟩
          refine allFrom_cons ?_ ?_
          · intro a_ w_ hk_
            have h83 : a_.eval (.tmp 83) = (.bool true) := hk_.got 13 83 _ (by kernel_rfl) rfl rfl
            have h85 : a_.eval (.tmp 85) = (.bool false) := hk_.got 15 85 _ (by kernel_rfl) rfl rfl
            have hg_ : a_.eval (.tmp 80) = .bool false := hk_.got 10 80 _ (by kernel_rfl) rfl rfl
            have hy_ := hk_.want 10 _ 80 false rfl rfl hg_
            have hx_ := hk_.ext
            clear hk_
            refine flow_want rfl hy_ ?_
            exact gives_pick rfl h83 ⟨Below.refl _ _, h85⟩
          refine allFrom_cons ?_ ?_
          · intro a_ w_ hk_
            have h80 : a_.eval (.tmp 80) = (.bool false) := hk_.got 10 80 _ (by kernel_rfl) rfl rfl
            have h86 : a_.eval (.tmp 86) = (.bool false) := hk_.got 16 86 _ (by kernel_rfl) rfl rfl
            have hx_ := hk_.ext
            clear hk_
            refine flow_plain rfl ?_
            exact gives_pick rfl h80 ⟨Below.refl _ _, h86⟩
          exact allFrom_nil
        intro f_ w_ hx_ hf_
        have h70 : f_ 70 = (.int .i64 31) := hf_ 0 70 _ (by decide) rfl rfl
        have h71 : f_ 71 = (.bool false) := hf_ 1 71 _ (by decide) rfl rfl
        have h72 : f_ 72 = (.int .i64 (u : Int)) := hf_ 2 72 _ (by decide) rfl rfl
        have h73 : f_ 73 = (.int .i64 ((u : Int) + 8)) := hf_ 3 73 _ (by decide) rfl rfl
        have h74 : f_ 74 = (.int .i64 (s : Int)) := hf_ 4 74 _ (by decide) rfl rfl
        have h75 : f_ 75 = (.int .i64 ((u : Int) + 8 + (s : Int))) := hf_ 5 75 _ (by decide) rfl rfl
        have h76 : f_ 76 = (.int .i64 (k : Int)) := hf_ 6 76 _ (by decide) rfl rfl
        have h77 : f_ 77 = (.int .i64 (256 * (k : Int))) := hf_ 7 77 _ (by decide) rfl rfl
        have h78 : f_ 78 = (.bool false) := hf_ 8 78 _ (by decide) rfl rfl
        have h79 : f_ 79 = (.bool false) := hf_ 9 79 _ (by decide) rfl rfl
        have h80 : f_ 80 = (.bool false) := hf_ 10 80 _ (by decide) rfl rfl
        have h81 : f_ 81 = (.int .i64 31) := hf_ 11 81 _ (by decide) rfl rfl
        have h82 : f_ 82 = (.bool true) := hf_ 12 82 _ (by decide) rfl rfl
        have h83 : f_ 83 = (.bool true) := hf_ 13 83 _ (by decide) rfl rfl
        have h84 : f_ 84 = (.int .i64 31) := hf_ 14 84 _ (by decide) rfl rfl
        have h85 : f_ 85 = (.bool false) := hf_ 15 85 _ (by decide) rfl rfl
        have h86 : f_ 86 = (.bool false) := hf_ 16 86 _ (by decide) rfl rfl
        have h87 : f_ 87 = (.bool false) := hf_ 17 87 _ (by decide) rfl rfl
        simp only [mix, h70, h71, h72, h73, h74, h75, h76, h77, h78, h79, h80, h81, h82, h83, h84, h85, h86, h87]
        clear h70 h71 h72 h73 h74 h75 h76 h77 h78 h79 h80 h81 h82 h83 h84 h85 h86 h87
        clear hf_
        obtain ⟨w6, hw6⟩ : ∃ w6, w6 = w_ := ⟨_, rfl⟩
        rw [← hw6] at hx_ ⊢
        clear hw6
        have HI6 := hid (HI5.out.next hx_)
        clear HI5 hx_ hl1 hs1
        go_wp2_with fail
        refine wp_hold (wp_region_lit ?_)
        refine wp_flowSE [0, 1, 3, 7, 15, 31, 63, 127, 255, 511, 1023, 2047, 4095, 8191] 14 [false, false, false, false, false, false, false, false, false, false, false, false, false, false, false, false, false, false, false, false, false, false, false, false, false, false, false, false, false, false, false, false, false, false, false, false, false, false, false, false, false, false, false, false, false, false, false, false, false, false, false, false, false, false, false, false, false, false, false, false, false, false, false, false, false, false, false, false, false, false, false, false, false, false, false, false, false, false, false, false, false, false, false, false, false, false, false, false, false, false, false, false, false, false, false, false, true, true, true, true, true, true, true, true, true, true, true, true, true, true] (by kernel_rfl) (by kernel_rfl) (by kernel_rfl) [FP.eq (.pointer (some ⟨gl, 0, none⟩)), FP.eq (.int .i64 (256 * (k : Int) - (u : Int))), FP.eq (.int .i64 (k : Int)), FP.eq (.int .i64 (256 * (k : Int))), FP.eq (.int .i64 (u : Int)), FP.eq (.int .i64 (256 * (k : Int) - (u : Int))), FP.eq (.bool false), FP.eq (.bool false), FP.eq (.pointer (some ⟨gl, 0, none⟩)), FP.rows L.rows, FP.eq (.int .i64 (m : Int)), FP.eq (.int .i64 (m : Int)), FP.eq (.bool false), FP.eq (.bool false)] ?_ ?_
        · refine allFrom_cons ?_ ?_
          · intro a_ w_ hk_
            have h11 : a_.eval (.tmp 11) = .pointer (some ⟨gl, 0, none⟩) := hk_.old 11 (by kernel_rfl)
            have hx_ := hk_.ext
            clear hk_
            refine flow_plain rfl ?_
            exact gives_move rfl ⟨Below.refl _ _, h11⟩
          refine allFrom_cons ?_ ?_
          · intro a_ w_ hk_
            have h96 : a_.eval (.tmp 96) = (.pointer (some ⟨gl, 0, none⟩)) := hk_.got 0 96 _ (by kernel_rfl) rfl rfl
            have hx_ := hk_.ext
            clear hk_
            refine flow_plain rfl ?_
            unfold gives
            have hc_ : ∀ v, a_.eval (.const v) = v := fun _ => rfl
            have hn_ : ∀ f, a_.eval (.func f) = .func (.func f) #[] #[] := fun _ => rfl
            generalize a_.eval = ρ_ at *
            go_simp
            exact (aFree w_ (HI6.out.has.log.below hx_ HI6.out.below.size) HI6.out.has.size).mono fun e w' ⟨h1, h2⟩ => ⟨_, h1, h2, congrArg (Value.int _) (by have h1 := HI6.out.size; have h2 := HI6.out.ub; have h3 := HI6.out.uk; rw [h1, h2]; omega)⟩
          refine allFrom_cons ?_ ?_
          · intro a_ w_ hk_
            have h8 : a_.eval (.tmp 8) = .int .i64 (k : Int) := hk_.old 8 (by kernel_rfl)
            have hx_ := hk_.ext
            clear hk_
            refine flow_plain rfl ?_
            exact gives_move rfl ⟨Below.refl _ _, h8⟩
          refine allFrom_cons ?_ ?_
          · intro a_ w_ hk_
            have h98 : a_.eval (.tmp 98) = (.int .i64 (k : Int)) := hk_.got 2 98 _ (by kernel_rfl) rfl rfl
            have hx_ := hk_.ext
            clear hk_
            refine flow_plain rfl ?_
            unfold gives
            have hc_ : ∀ v, a_.eval (.const v) = v := fun _ => rfl
            have hn_ : ∀ f, a_.eval (.func f) = .func (.func f) #[] #[] := fun _ => rfl
            generalize a_.eval = ρ_ at *
            go_simp
            exact ⟨Below.refl _ _, congrArg (Value.int _) (i64_wrap (by omega) (by omega))⟩
          refine allFrom_cons ?_ ?_
          · intro a_ w_ hk_
            have h13 : a_.eval (.tmp 13) = .int .i64 (u : Int) := hk_.old 13 (by kernel_rfl)
            have hx_ := hk_.ext
            clear hk_
            refine flow_plain rfl ?_
            exact gives_move rfl ⟨Below.refl _ _, h13⟩
          refine allFrom_cons ?_ ?_
          · intro a_ w_ hk_
            have h99 : a_.eval (.tmp 99) = (.int .i64 (256 * (k : Int))) := hk_.got 3 99 _ (by kernel_rfl) rfl rfl
            have h100 : a_.eval (.tmp 100) = (.int .i64 (u : Int)) := hk_.got 4 100 _ (by kernel_rfl) rfl rfl
            have hx_ := hk_.ext
            clear hk_
            refine flow_plain rfl ?_
            unfold gives
            have hc_ : ∀ v, a_.eval (.const v) = v := fun _ => rfl
            have hn_ : ∀ f, a_.eval (.func f) = .func (.func f) #[] #[] := fun _ => rfl
            generalize a_.eval = ρ_ at *
            go_simp
            exact ⟨Below.refl _ _, congrArg (Value.int _) (i64_wrap (by have h3 := HI6.out.uk; omega) (by omega))⟩
          refine allFrom_cons ?_ ?_
          · intro a_ w_ hk_
            have h97 : a_.eval (.tmp 97) = (.int .i64 (256 * (k : Int) - (u : Int))) := hk_.got 1 97 _ (by kernel_rfl) rfl rfl
            have h101 : a_.eval (.tmp 101) = (.int .i64 (256 * (k : Int) - (u : Int))) := hk_.got 5 101 _ (by kernel_rfl) rfl rfl
            have hx_ := hk_.ext
            clear hk_
            refine flow_plain rfl ?_
            unfold gives
            have hc_ : ∀ v, a_.eval (.const v) = v := fun _ => rfl
            have hn_ : ∀ f, a_.eval (.func f) = .func (.func f) #[] #[] := fun _ => rfl
            generalize a_.eval = ρ_ at *
            go_simp
            exact ⟨Below.refl _ _, rfl⟩
          refine allFrom_cons ?_ ?_
          · intro a_ w_ hk_
            have h102 : a_.eval (.tmp 102) = (.bool false) := hk_.got 6 102 _ (by kernel_rfl) rfl rfl
            have hx_ := hk_.ext
            clear hk_
            refine flow_plain rfl ?_
            exact gives_move rfl ⟨Below.refl _ _, h102⟩
          refine allFrom_cons ?_ ?_
          · intro a_ w_ hk_
            have h11 : a_.eval (.tmp 11) = .pointer (some ⟨gl, 0, none⟩) := hk_.old 11 (by kernel_rfl)
            have hg_ : a_.eval (.tmp 103) = .bool false := hk_.got 7 103 _ (by kernel_rfl) rfl rfl
            have hy_ := hk_.want 7 _ 103 false rfl rfl hg_
            have hx_ := hk_.ext
            clear hk_
            refine flow_want rfl hy_ ?_
            exact gives_move rfl ⟨Below.refl _ _, h11⟩
          refine allFrom_cons ?_ ?_
          · intro a_ w_ hk_
            have h104 : a_.eval (.tmp 104) = (.pointer (some ⟨gl, 0, none⟩)) := hk_.got 8 104 _ (by kernel_rfl) rfl rfl
            have hg_ : a_.eval (.tmp 103) = .bool false := hk_.got 7 103 _ (by kernel_rfl) rfl rfl
            have hy_ := hk_.want 7 _ 103 false rfl rfl hg_
            have hx_ := hk_.ext
            clear hk_
            refine flow_want rfl hy_ ?_
            unfold gives
            have hc_ : ∀ v, a_.eval (.const v) = v := fun _ => rfl
            have hn_ : ∀ f, a_.eval (.func f) = .func (.func f) #[] #[] := fun _ => rfl
            clear hy_ hg_
            generalize a_.eval = ρ_ at *
            go_simp
            exact (records_V w_ (HI6.out.has.log.below hx_ HI6.out.below.size) HI6.out.has.size).mono fun e w' ⟨v, h1, h2, h3⟩ => ⟨v, h1, h3, h2⟩
          refine allFrom_cons ?_ ?_
          · intro a_ w_ hk_
            have h105 : (FP.rows L.rows).p (a_.eval (.tmp 105)) w_ := hk_.got 9 105 _ (by kernel_rfl) rfl rfl
            have hg_ : a_.eval (.tmp 103) = .bool false := hk_.got 7 103 _ (by kernel_rfl) rfl rfl
            have hy_ := hk_.want 7 _ 103 false rfl rfl hg_
            have hx_ := hk_.ext
            clear hk_
            refine flow_want rfl hy_ ?_
            unfold gives
            have hc_ : ∀ v, a_.eval (.const v) = v := fun _ => rfl
            have hn_ : ∀ f, a_.eval (.func f) = .func (.func f) #[] #[] := fun _ => rfl
            clear hy_ hg_
            obtain ⟨A105, c105, h105, r105⟩ := h105
            generalize a_.eval = ρ_ at *
            go_simp
            exact ⟨Below.refl _ _, by rw [HI6.out.mb]; rfl⟩
          refine allFrom_cons ?_ ?_
          · intro a_ w_ hk_
            have h14 : a_.eval (.tmp 14) = .int .i64 (m : Int) := hk_.old 14 (by kernel_rfl)
            have hg_ : a_.eval (.tmp 103) = .bool false := hk_.got 7 103 _ (by kernel_rfl) rfl rfl
            have hy_ := hk_.want 7 _ 103 false rfl rfl hg_
            have hx_ := hk_.ext
            clear hk_
            refine flow_want rfl hy_ ?_
            exact gives_move rfl ⟨Below.refl _ _, h14⟩
          refine allFrom_cons ?_ ?_
          · intro a_ w_ hk_
            have h106 : a_.eval (.tmp 106) = (.int .i64 (m : Int)) := hk_.got 10 106 _ (by kernel_rfl) rfl rfl
            have h107 : a_.eval (.tmp 107) = (.int .i64 (m : Int)) := hk_.got 11 107 _ (by kernel_rfl) rfl rfl
            have hg_ : a_.eval (.tmp 103) = .bool false := hk_.got 7 103 _ (by kernel_rfl) rfl rfl
            have hy_ := hk_.want 7 _ 103 false rfl rfl hg_
            have hx_ := hk_.ext
            clear hk_
            refine flow_want rfl hy_ ?_
            unfold gives
            have hc_ : ∀ v, a_.eval (.const v) = v := fun _ => rfl
            have hn_ : ∀ f, a_.eval (.func f) = .func (.func f) #[] #[] := fun _ => rfl
            clear hy_ hg_
            generalize a_.eval = ρ_ at *
            go_simp
            exact ⟨Below.refl _ _, rfl⟩
          refine allFrom_cons ?_ ?_
          · intro a_ w_ hk_
            have h103 : a_.eval (.tmp 103) = (.bool false) := hk_.got 7 103 _ (by kernel_rfl) rfl rfl
            have h108 : a_.eval (.tmp 108) = (.bool false) := hk_.got 12 108 _ (by kernel_rfl) rfl rfl
            have hx_ := hk_.ext
            clear hk_
            refine flow_plain rfl ?_
            exact gives_pick rfl h103 ⟨Below.refl _ _, h108⟩
          exact allFrom_nil
        intro f_ w_ hx_ hf_
        have h96 : f_ 96 = (.pointer (some ⟨gl, 0, none⟩)) := hf_ 0 96 _ (by decide) rfl rfl
        have h97 : f_ 97 = (.int .i64 (256 * (k : Int) - (u : Int))) := hf_ 1 97 _ (by decide) rfl rfl
        have h98 : f_ 98 = (.int .i64 (k : Int)) := hf_ 2 98 _ (by decide) rfl rfl
        have h99 : f_ 99 = (.int .i64 (256 * (k : Int))) := hf_ 3 99 _ (by decide) rfl rfl
        have h100 : f_ 100 = (.int .i64 (u : Int)) := hf_ 4 100 _ (by decide) rfl rfl
        have h101 : f_ 101 = (.int .i64 (256 * (k : Int) - (u : Int))) := hf_ 5 101 _ (by decide) rfl rfl
        have h102 : f_ 102 = (.bool false) := hf_ 6 102 _ (by decide) rfl rfl
        have h103 : f_ 103 = (.bool false) := hf_ 7 103 _ (by decide) rfl rfl
        have h104 : f_ 104 = (.pointer (some ⟨gl, 0, none⟩)) := hf_ 8 104 _ (by decide) rfl rfl
        have h105 : (FP.rows L.rows).p (f_ 105) w_ := hf_ 9 105 _ (by decide) rfl rfl
        have h106 : f_ 106 = (.int .i64 (m : Int)) := hf_ 10 106 _ (by decide) rfl rfl
        have h107 : f_ 107 = (.int .i64 (m : Int)) := hf_ 11 107 _ (by decide) rfl rfl
        have h108 : f_ 108 = (.bool false) := hf_ 12 108 _ (by decide) rfl rfl
        have h109 : f_ 109 = (.bool false) := hf_ 13 109 _ (by decide) rfl rfl
        simp only [mix, h96, h97, h98, h99, h100, h101, h102, h103, h104, h106, h107, h108, h109]
        clear h96 h97 h98 h99 h100 h101 h102 h103 h104 h106 h107 h108 h109
        clear hf_
        go_wp2_with fail
        refine ⟨⟨i + 1, u, m, D, L, hlt, by push_cast; rfl, rfl, rfl, HI6.out.next hx_⟩, by show sizes.length - ((i : Int) + 1).toNat < sizes.length - (i : Int).toNat; omega⟩
    · have HI := hid hI
      clear hI
      have hil : ¬ (i : Int) < (sizes.length : Int) := by omega
      go_wp2_with fail
      refine (aRecords wr HI.out.has.log HI.out.has.size).mono ?_
      rintro e w4 ⟨v, vs, rfl, hro, hb4⟩
      have hI4 := HI.out.next hb4
      have hmb := hI4.mb
      obtain ⟨A, c, rfl, hmc, hcm, _⟩ := hro.bb
      rw [hmb]
      rw [hmb] at hmc
      have hcm' : c ≤ 9223372036854775807 := hcm
      have hm30 : m ≤ 30 := by have := hI4.mi; omega
      obtain ⟨r, hr⟩ : ∃ r, r = kn % (m + 1) := ⟨_, rfl⟩
      have hkt : ((kn : Nat) : Int).tmod ((m : Int) + 1) = (r : Int) := by rw [hr]; exact tmod_nat kn m
      have hrm : r ≤ m := by rw [hr]; exact Nat.le_of_lt_succ (Nat.mod_lt kn (Nat.succ_pos m))
      have HKT := hid hkt
      have HI4 := hid hI4
      have HRO := hid hro
      clear hI4 hro hkt hr hmb hcm HI hb4
      go_wp2_with fail
      refine wp_hold (wp_region_lit ?_)
      refine wp_flowSE [0, 1, 3, 7, 15, 31] 6 [false, false, false, false, false, false, false, false, false, false, false, false, false, false, false, false, false, false, false, true, false, false, false, false, false, false, false, false, false, false, false, false, false, false, false, false, false, false, false, false, false, false, false, false, false, false, false, false, false, false, false, false, false, false, false, false, false, false, false, false, false, false, false, false, false, false, false, false, false, false, false, false, false, false, false, false, false, false, false, false, false, false, false, false, false, false, false, false, false, false, false, false, false, false, false, false, false, false, false, false, false, false, false, false, false, false, false, false, false, false, false, false, true, true, true, true, true] (by kernel_rfl) (by kernel_rfl) (by kernel_rfl) [FP.eq (.int .u8 (kn : Int)), FP.eq (.int .i64 (kn : Int)), FP.eq (.int .i64 (m : Int)), FP.eq (.int .i64 ((m : Int) + 1)), FP.eq (.int .i64 (r : Int)), FP.eq (.int .i64 (r : Int))] ?_ ?_
      · refine allFrom_cons ?_ ?_
        · intro a_ w_ hk_
          have h2 : a_.eval (.tmp 2) = .int .u8 (kn : Int) := hk_.old 2 (by kernel_rfl)
          have hx_ := hk_.ext
          clear hk_
          refine flow_plain rfl ?_
          exact gives_move rfl ⟨Below.refl _ _, h2⟩
        refine allFrom_cons ?_ ?_
        · intro a_ w_ hk_
          have h112 : a_.eval (.tmp 112) = (.int .u8 (kn : Int)) := hk_.got 0 112 _ (by kernel_rfl) rfl rfl
          have hx_ := hk_.ext
          clear hk_
          refine flow_plain rfl ?_
          unfold gives
          have hc_ : ∀ v, a_.eval (.const v) = v := fun _ => rfl
          have hn_ : ∀ f, a_.eval (.func f) = .func (.func f) #[] #[] := fun _ => rfl
          generalize a_.eval = ρ_ at *
          go_simp
          exact ⟨Below.refl _ _, congrArg (Value.int _) (i64_wrap (by omega) (by omega))⟩
        refine allFrom_cons ?_ ?_
        · intro a_ w_ hk_
          have h14 : a_.eval (.tmp 14) = .int .i64 (m : Int) := hk_.old 14 (by kernel_rfl)
          have hx_ := hk_.ext
          clear hk_
          refine flow_plain rfl ?_
          exact gives_move rfl ⟨Below.refl _ _, h14⟩
        refine allFrom_cons ?_ ?_
        · intro a_ w_ hk_
          have h114 : a_.eval (.tmp 114) = (.int .i64 (m : Int)) := hk_.got 2 114 _ (by kernel_rfl) rfl rfl
          have hx_ := hk_.ext
          clear hk_
          refine flow_plain rfl ?_
          unfold gives
          have hc_ : ∀ v, a_.eval (.const v) = v := fun _ => rfl
          have hn_ : ∀ f, a_.eval (.func f) = .func (.func f) #[] #[] := fun _ => rfl
          generalize a_.eval = ρ_ at *
          go_simp
          exact ⟨Below.refl _ _, congrArg (Value.int _) (i64_wrap (by omega) (by omega))⟩
        refine allFrom_cons ?_ ?_
        · intro a_ w_ hk_
          have h113 : a_.eval (.tmp 113) = (.int .i64 (kn : Int)) := hk_.got 1 113 _ (by kernel_rfl) rfl rfl
          have h115 : a_.eval (.tmp 115) = (.int .i64 ((m : Int) + 1)) := hk_.got 3 115 _ (by kernel_rfl) rfl rfl
          have hx_ := hk_.ext
          clear hk_
          refine flow_plain rfl ?_
          unfold gives
          have hc_ : ∀ v, a_.eval (.const v) = v := fun _ => rfl
          have hn_ : ∀ f, a_.eval (.func f) = .func (.func f) #[] #[] := fun _ => rfl
          generalize a_.eval = ρ_ at *
          go_simp
          rw [if_neg (by omega)]
          exact ⟨Below.refl _ _, congrArg (Value.int _) HKT.out⟩
        refine allFrom_cons ?_ ?_
        · intro a_ w_ hk_
          have h116 : a_.eval (.tmp 116) = (.int .i64 (r : Int)) := hk_.got 4 116 _ (by kernel_rfl) rfl rfl
          have hx_ := hk_.ext
          clear hk_
          refine flow_plain rfl ?_
          exact gives_assign rfl ⟨Below.refl _ _, h116⟩
        exact allFrom_nil
      intro f_ w_ hx_ hf_
      have h112 : f_ 112 = (.int .u8 (kn : Int)) := hf_ 0 112 _ (by decide) rfl rfl
      have h113 : f_ 113 = (.int .i64 (kn : Int)) := hf_ 1 113 _ (by decide) rfl rfl
      have h114 : f_ 114 = (.int .i64 (m : Int)) := hf_ 2 114 _ (by decide) rfl rfl
      have h115 : f_ 115 = (.int .i64 ((m : Int) + 1)) := hf_ 3 115 _ (by decide) rfl rfl
      have h116 : f_ 116 = (.int .i64 (r : Int)) := hf_ 4 116 _ (by decide) rfl rfl
      have h19 : f_ 19 = (.int .i64 (r : Int)) := hf_ 5 19 _ (by decide) rfl rfl
      simp only [mix, h112, h113, h114, h115, h116, h19]
      clear h112 h113 h114 h115 h116 h19
      clear hf_
      obtain ⟨w5, hw5⟩ : ∃ w5, w5 = w_ := ⟨_, rfl⟩
      rw [← hw5] at hx_ ⊢
      clear hw5
      have hI5 := HI4.out.next hx_
      have hro5 := HRO.out.below hx_
      obtain ⟨rk, hrk⟩ : ∃ rk, rk = L.rows.take r := ⟨_, rfl⟩
      have hrl : rk.length = r := by rw [hrk, List.length_take, hI5.mb]; omega
      have hfr : (framL rk).length ≤ 256 * k := by
        have h1 := framL_take L.rows r
        have h2 := hI5.uk
        have h3 := hI5.ub
        rw [hI5.has.inv.b] at h3
        rw [hrk]
        omega
      have hl1 := hI5.loose
      have hs1 := hI5.size
      have ht1 := hI5.turn
      have ha := cCompact w5 hI5.has hI5.calm hI5.below.size (by omega) (by omega) (A := A) (c := c) (rs' := rk) (fun W hx => by
        obtain ⟨A', c', e, _, _, hbb⟩ := (hro5.xfr hx (by decide) (by decide)).bb
        injection e with e1 _ _
        rw [hrk, e1]
        exact hbb.take r) (by omega) (fun q hq => by
          rw [hrk] at hq
          have := hI5.short q (List.mem_of_mem_take hq)
          omega) (by omega)
      rw [hrl] at ha
      have HA := hid ha
      have HI5 := hid hI5
      have HRO5 := hid hro5
      clear ha hI5 hro5 HI4 HRO hx_ HKT
      go_wp2_with fail
      refine HA.out.mono ?_
      rintro e w6 ⟨rfl, D6, hh6, r1, r2, r3, hx6⟩
      obtain ⟨L6, hL6⟩ : ∃ L6 : LS, L6 = { L with turn := L.turn + 1, area := 1 - L.area, b := framL rk, rows := rk, sure := r } := ⟨_, rfl⟩
      rw [← hL6] at hh6
      have p6 : L6.size = k ∧ L6.turn ≤ 1 ∧ L6.b = framL rk ∧ L6.rows = rk ∧ L6.sure = r := by rw [hL6]; exact ⟨hs1, by show L.turn + 1 ≤ 1; omega, rfl, rfl, rfl⟩
      have hb6 := HI5.out.below.trans hx6.below
      have hro6 := HRO5.out.xfr hx6 (by decide) (by decide)
      have hrd : ∀ W, Below w6.heap.size w6 W → RdBB W W.heap.size A L.rows := by
        intro W hb
        obtain ⟨A', c', e, _, _, hbb⟩ := (hro6.below hb).bb
        injection e with e1 _ _
        rw [e1]
        exact hbb
      have hlm := HI5.out.mb
      have HRD := hid hrd
      have HH6 := hid hh6
      have HB6 := hid hb6
      have HP6 := hid p6
      have hq6 : D6.loose.length ≤ 400 := by omega
      clear hL6 hh6 p6 hb6 hro6 hrd HRO5 HA hx6 HI5 r2 r3 hl1 hs1 ht1
      go_wp2_with fail
      refine wp_hold (wp_region_lit ?_)
      refine wp_flowSE [0, 1, 3] 3 [false, false, false, false, false, false, false, false, false, false, false, false, false, false, false, false, false, false, false, false, false, true, false, false, false, false, false, false, false, false, false, false, false, false, false, false, false, false, false, false, false, false, false, false, false, false, false, false, false, false, false, false, false, false, false, false, false, false, false, false, false, false, false, false, false, false, false, false, false, false, false, false, false, false, false, false, false, false, false, false, false, false, false, false, false, false, false, false, false, false, false, false, false, false, false, false, false, false, false, false, false, false, false, false, false, false, false, false, false, false, false, false, false, false, false, false, false, false, false, false, false, false, true, true] (by kernel_rfl) (by kernel_rfl) (by kernel_rfl) [FP.eq (.int .i64 (k : Int)), FP.eq (.int .i64 ((256 * k : Nat) : Int)), FP.eq (.int .i64 ((256 * k : Nat) : Int))] ?_ ?_
      · refine allFrom_cons ?_ ?_
        · intro a_ w_ hk_
          have h8 : a_.eval (.tmp 8) = .int .i64 (k : Int) := hk_.old 8 (by kernel_rfl)
          have hx_ := hk_.ext
          clear hk_
          refine flow_plain rfl ?_
          exact gives_move rfl ⟨Below.refl _ _, h8⟩
        refine allFrom_cons ?_ ?_
        · intro a_ w_ hk_
          have h122 : a_.eval (.tmp 122) = (.int .i64 (k : Int)) := hk_.got 0 122 _ (by kernel_rfl) rfl rfl
          have hx_ := hk_.ext
          clear hk_
          refine flow_plain rfl ?_
          unfold gives
          have hc_ : ∀ v, a_.eval (.const v) = v := fun _ => rfl
          have hn_ : ∀ f, a_.eval (.func f) = .func (.func f) #[] #[] := fun _ => rfl
          generalize a_.eval = ρ_ at *
          go_simp
          exact ⟨Below.refl _ _, congrArg (Value.int _) ((i64_wrap (by omega) (by omega)).trans (by omega))⟩
        refine allFrom_cons ?_ ?_
        · intro a_ w_ hk_
          have h123 : a_.eval (.tmp 123) = (.int .i64 ((256 * k : Nat) : Int)) := hk_.got 1 123 _ (by kernel_rfl) rfl rfl
          have hx_ := hk_.ext
          clear hk_
          refine flow_plain rfl ?_
          exact gives_assign rfl ⟨Below.refl _ _, h123⟩
        exact allFrom_nil
      intro f_ w_ hx_ hf_
      have h122 : f_ 122 = (.int .i64 (k : Int)) := hf_ 0 122 _ (by decide) rfl rfl
      have h123 : f_ 123 = (.int .i64 ((256 * k : Nat) : Int)) := hf_ 1 123 _ (by decide) rfl rfl
      have h21 : f_ 21 = (.int .i64 ((256 * k : Nat) : Int)) := hf_ 2 21 _ (by decide) rfl rfl
      simp only [mix, h122, h123, h21]
      clear h122 h123 h21
      clear hf_
      have hx6 := hx_
      clear hx_
      obtain ⟨w7, hw7⟩ : ∃ w7, w7 = w_ := ⟨_, rfl⟩
      rw [← hw7] at hx6 ⊢
      clear hw7
      go_wp2_with fail
      go_loopw [21, 22] (fun v21 v22 wz => ∃ j lf : Nat, j ≤ r ∧ v22 = .int .i64 (j : Int) ∧ v21 = .int .i64 (lf : Int) ∧ lf + (framL (L.rows.take j)).length = 256 * k ∧ Below w6.heap.size w6 wz) (fun _ v22 _ => r - (ofInt v22).toNat)
      case atStart => exact ⟨0, 256 * k, Nat.zero_le _, rfl, rfl, by rw [List.take_zero]; rfl, hx6⟩
      case round =>
        obtain ⟨j, lf, hj, rfl, rfl, hlf, hb⟩ := hrel
        rename World => wz
        by_cases hjr : j < r
        · have hji : (j : Int) < (r : Int) := by omega
          have hjm : j < L.rows.length := by omega
          have hjmi : (j : Int) < (m : Int) := by omega
          obtain ⟨b, off, Ax, cx, rfl, hbB, hcell0, hlc, _⟩ := (HRD.out wz hb).at_ (k := j) hjm
          obtain ⟨sl, hsl⟩ : ∃ sl, sl = L.rows[j].length := ⟨_, rfl⟩
          rw [← hsl] at hcell0
          have hsc := framL_succ hjm
          rw [← hsl] at hsc
          have hst : (framL (L.rows.take (j + 1))).length ≤ 256 * k := by
            have h1 := framL_take rk (j + 1)
            have h2 : rk.take (j + 1) = L.rows.take (j + 1) := by rw [hrk, List.take_take, Nat.min_eq_left (show j + 1 ≤ r from hjr)]
            rw [h2] at h1
            omega
          clear hsl hrk hlc
          go_wp2_with fail
          refine wp_hold (wp_region_lit ?_)
          refine wp_flowSE [0, 1, 3, 7, 15, 31, 63, 127, 255] 9 [false, false, false, false, false, false, false, false, false, false, false, false, false, false, false, false, false, false, false, false, false, true, false, false, false, false, false, false, false, false, false, false, false, false, false, false, false, false, false, false, false, false, false, false, false, false, false, false, false, false, false, false, false, false, false, false, false, false, false, false, false, false, false, false, false, false, false, false, false, false, false, false, false, false, false, false, false, false, false, false, false, false, false, false, false, false, false, false, false, false, false, false, false, false, false, false, false, false, false, false, false, false, false, false, false, false, false, false, false, false, false, false, false, false, false, false, false, false, false, false, false, false, false, false, false, false, false, false, false, true, true, true, true, true, true, true, true] (by kernel_rfl) (by kernel_rfl) (by kernel_rfl) [FP.eq (.int .i64 (lf : Int)), FP.eq (.slice (some ⟨b, off, none⟩) m c), FP.eq (.int .i64 (j : Int)), FP.eq (.pointer (some ⟨b, off + j, none⟩)), FP.eq (.slice Ax sl cx), FP.eq (.int .i64 (sl : Int)), FP.eq (.int .i64 (8 + (sl : Int))), FP.eq (.int .i64 ((lf - (8 + sl) : Nat) : Int)), FP.eq (.int .i64 ((lf - (8 + sl) : Nat) : Int))] ?_ ?_
          · refine allFrom_cons ?_ ?_
            · intro a_ w_ hk_
              have h21 : a_.eval (.tmp 21) = .int .i64 (lf : Int) := hk_.old 21 (by kernel_rfl)
              have hx_ := hk_.ext
              clear hk_
              refine flow_plain rfl ?_
              exact gives_move rfl ⟨Below.refl _ _, h21⟩
            refine allFrom_cons ?_ ?_
            · intro a_ w_ hk_
              have h18 : a_.eval (.tmp 18) = .slice (some ⟨b, off, none⟩) m c := hk_.old 18 (by kernel_rfl)
              have hx_ := hk_.ext
              clear hk_
              refine flow_plain rfl ?_
              exact gives_move rfl ⟨Below.refl _ _, h18⟩
            refine allFrom_cons ?_ ?_
            · intro a_ w_ hk_
              have h22 : a_.eval (.tmp 22) = .int .i64 (j : Int) := hk_.old 22 (by kernel_rfl)
              have hx_ := hk_.ext
              clear hk_
              refine flow_plain rfl ?_
              exact gives_move rfl ⟨Below.refl _ _, h22⟩
            refine allFrom_cons ?_ ?_
            · intro a_ w_ hk_
              have h130 : a_.eval (.tmp 130) = (.slice (some ⟨b, off, none⟩) m c) := hk_.got 1 130 _ (by kernel_rfl) rfl rfl
              have h131 : a_.eval (.tmp 131) = (.int .i64 (j : Int)) := hk_.got 2 131 _ (by kernel_rfl) rfl rfl
              have hx_ := hk_.ext
              clear hk_
              refine flow_plain rfl ?_
              unfold gives
              have hc_ : ∀ v, a_.eval (.const v) = v := fun _ => rfl
              have hn_ : ∀ f, a_.eval (.func f) = .func (.func f) #[] #[] := fun _ => rfl
              generalize a_.eval = ρ_ at *
              go_simp
              exact ⟨Below.refl _ _, rfl⟩
            refine allFrom_cons ?_ ?_
            · intro a_ w_ hk_
              have h132 : a_.eval (.tmp 132) = (.pointer (some ⟨b, off + j, none⟩)) := hk_.got 3 132 _ (by kernel_rfl) rfl rfl
              have hx_ := hk_.ext
              clear hk_
              refine flow_plain rfl ?_
              unfold gives
              have hc_ : ∀ v, a_.eval (.const v) = v := fun _ => rfl
              have hn_ : ∀ f, a_.eval (.func f) = .func (.func f) #[] #[] := fun _ => rfl
              have hcell := (hx_.cell (p := ⟨b, off + j, none⟩) hbB).trans hcell0
              generalize a_.eval = ρ_ at *
              go_simp
              exact ⟨Below.refl _ _, rfl⟩
            refine allFrom_cons ?_ ?_
            · intro a_ w_ hk_
              have h133 : a_.eval (.tmp 133) = (.slice Ax sl cx) := hk_.got 4 133 _ (by kernel_rfl) rfl rfl
              have hx_ := hk_.ext
              clear hk_
              refine flow_plain rfl ?_
              unfold gives
              have hc_ : ∀ v, a_.eval (.const v) = v := fun _ => rfl
              have hn_ : ∀ f, a_.eval (.func f) = .func (.func f) #[] #[] := fun _ => rfl
              generalize a_.eval = ρ_ at *
              go_simp
              exact ⟨Below.refl _ _, rfl⟩
            refine allFrom_cons ?_ ?_
            · intro a_ w_ hk_
              have h134 : a_.eval (.tmp 134) = (.int .i64 (sl : Int)) := hk_.got 5 134 _ (by kernel_rfl) rfl rfl
              have hx_ := hk_.ext
              clear hk_
              refine flow_plain rfl ?_
              unfold gives
              have hc_ : ∀ v, a_.eval (.const v) = v := fun _ => rfl
              have hn_ : ∀ f, a_.eval (.func f) = .func (.func f) #[] #[] := fun _ => rfl
              generalize a_.eval = ρ_ at *
              go_simp
              exact ⟨Below.refl _ _, congrArg (Value.int _) (i64_wrap (by omega) (by omega))⟩
            refine allFrom_cons ?_ ?_
            · intro a_ w_ hk_
              have h129 : a_.eval (.tmp 129) = (.int .i64 (lf : Int)) := hk_.got 0 129 _ (by kernel_rfl) rfl rfl
              have h135 : a_.eval (.tmp 135) = (.int .i64 (8 + (sl : Int))) := hk_.got 6 135 _ (by kernel_rfl) rfl rfl
              have hx_ := hk_.ext
              clear hk_
              refine flow_plain rfl ?_
              unfold gives
              have hc_ : ∀ v, a_.eval (.const v) = v := fun _ => rfl
              have hn_ : ∀ f, a_.eval (.func f) = .func (.func f) #[] #[] := fun _ => rfl
              generalize a_.eval = ρ_ at *
              go_simp
              exact ⟨Below.refl _ _, congrArg (Value.int _) ((i64_wrap (by omega) (by omega)).trans (by omega))⟩
            refine allFrom_cons ?_ ?_
            · intro a_ w_ hk_
              have h136 : a_.eval (.tmp 136) = (.int .i64 ((lf - (8 + sl) : Nat) : Int)) := hk_.got 7 136 _ (by kernel_rfl) rfl rfl
              have hx_ := hk_.ext
              clear hk_
              refine flow_plain rfl ?_
              exact gives_assign rfl ⟨Below.refl _ _, h136⟩
            exact allFrom_nil
          intro f_ w_ hx_ hf_
          have h129 : f_ 129 = (.int .i64 (lf : Int)) := hf_ 0 129 _ (by decide) rfl rfl
          have h130 : f_ 130 = (.slice (some ⟨b, off, none⟩) m c) := hf_ 1 130 _ (by decide) rfl rfl
          have h131 : f_ 131 = (.int .i64 (j : Int)) := hf_ 2 131 _ (by decide) rfl rfl
          have h132 : f_ 132 = (.pointer (some ⟨b, off + j, none⟩)) := hf_ 3 132 _ (by decide) rfl rfl
          have h133 : f_ 133 = (.slice Ax sl cx) := hf_ 4 133 _ (by decide) rfl rfl
          have h134 : f_ 134 = (.int .i64 (sl : Int)) := hf_ 5 134 _ (by decide) rfl rfl
          have h135 : f_ 135 = (.int .i64 (8 + (sl : Int))) := hf_ 6 135 _ (by decide) rfl rfl
          have h136 : f_ 136 = (.int .i64 ((lf - (8 + sl) : Nat) : Int)) := hf_ 7 136 _ (by decide) rfl rfl
          have h21 : f_ 21 = (.int .i64 ((lf - (8 + sl) : Nat) : Int)) := hf_ 8 21 _ (by decide) rfl rfl
          simp only [mix, h129, h130, h131, h132, h133, h134, h135, h136, h21]
          clear h129 h130 h131 h132 h133 h134 h135 h136 h21
          clear hf_
          go_wp2_with fail
          exact ⟨⟨j + 1, lf - (8 + sl), hjr, by push_cast; rfl, rfl, by omega, bx_trans hb hx_⟩, by show r - ((j : Int) + 1).toNat < r - (j : Int).toNat; omega⟩
        · have hji : ¬ (j : Int) < (r : Int) := by omega
          obtain rfl : j = r := by omega
          rw [← hrk] at hlf
          clear hrk HRD
          go_wp2_with fail
          refine wp_hold (wp_region_lit ?_)
          refine wp_flowS [0, 1, 3, 7, 15, 31, 63, 127, 255, 511, 1023, 2047, 4095, 8191, 16383, 32767, 65535, 131071, 262143, 524287, 1048575, 2097151, 4194303, 8388607, 16777215, 33554431, 67108863] 22 [false, false, false, false, false, false, false, false, false, false, false, false, false, false, false, false, false, false, false, false, false, false, false, false, false, false, false, false, false, false, false, false, false, false, false, false, false, false, false, false, false, false, false, false, false, false, false, false, false, false, false, false, false, false, false, false, false, false, false, false, false, false, false, false, false, false, false, false, false, false, false, false, false, false, false, false, false, false, false, false, false, false, false, false, false, false, false, false, false, false, false, false, false, false, false, false, false, false, false, false, false, false, false, false, false, false, false, false, false, false, false, false, false, false, false, false, false, false, false, false, false, false, false, false, false, false, false, false, false, false, false, false, false, false, false, false, false, true, true, true, true, true, true, true, true, true, true, true, true, true, true, true, true, true, true, true, true, true, true, false, false, false, false] (by kernel_rfl) (by decide) (by kernel_rfl) [FP.eq (.int .i64 0), FP.eq (.bool true), FP.eq (.bool true), FP.eq (.pointer (some ⟨gl, 0, none⟩)), FP.eq (.int .i64 (lf : Int)), FP.eq (.int .i64 (lf : Int)), FP.eq (.bool true), FP.eq (.bool true), FP.eq (.bool true), FP.eq (.pointer (some ⟨gl, 0, none⟩)), FP.eq (.int .i64 (j : Int)), FP.eq (.int .i64 (j : Int)), FP.eq (.bool true), FP.eq (.bool true), FP.eq (.bool true), FP.eq (.pointer (some ⟨gl, 0, none⟩)), FP.rows L6.rows, FP.eq (.int .i64 (j : Int)), FP.eq (.int .i64 (j : Int)), FP.eq (.bool true), FP.eq (.bool true), FP.eq (.bool true)] ?_ ?_
          · refine allFrom_cons ?_ ?_
            · intro a_ w_ hk_
              have h20 : a_.eval (.tmp 20) = .int .i64 0 := hk_.old 20 (by kernel_rfl)
              have hx_ := hk_.ext
              clear hk_
              refine flow_plain rfl ?_
              exact gives_move rfl ⟨Below.refl _ _, h20⟩
            refine allFrom_cons ?_ ?_
            · intro a_ w_ hk_
              have h137 : a_.eval (.tmp 137) = (.int .i64 0) := hk_.got 0 137 _ (by kernel_rfl) rfl rfl
              have hx_ := hk_.ext
              clear hk_
              refine flow_plain rfl ?_
              unfold gives
              have hc_ : ∀ v, a_.eval (.const v) = v := fun _ => rfl
              have hn_ : ∀ f, a_.eval (.func f) = .func (.func f) #[] #[] := fun _ => rfl
              generalize a_.eval = ρ_ at *
              go_simp
              exact ⟨Below.refl _ _, rfl⟩
            refine allFrom_cons ?_ ?_
            · intro a_ w_ hk_
              have h138 : a_.eval (.tmp 138) = (.bool true) := hk_.got 1 138 _ (by kernel_rfl) rfl rfl
              have hx_ := hk_.ext
              clear hk_
              refine flow_plain rfl ?_
              exact gives_move rfl ⟨Below.refl _ _, h138⟩
            refine allFrom_cons ?_ ?_
            · intro a_ w_ hk_
              have h11 : a_.eval (.tmp 11) = .pointer (some ⟨gl, 0, none⟩) := hk_.old 11 (by kernel_rfl)
              have hg_ : a_.eval (.tmp 139) = .bool true := hk_.got 2 139 _ (by kernel_rfl) rfl rfl
              have hy_ := hk_.want 2 _ 139 true rfl rfl hg_
              have hx_ := hk_.ext
              clear hk_
              refine flow_want rfl hy_ ?_
              exact gives_move rfl ⟨Below.refl _ _, h11⟩
            refine allFrom_cons ?_ ?_
            · intro a_ w_ hk_
              have h140 : a_.eval (.tmp 140) = (.pointer (some ⟨gl, 0, none⟩)) := hk_.got 3 140 _ (by kernel_rfl) rfl rfl
              have hg_ : a_.eval (.tmp 139) = .bool true := hk_.got 2 139 _ (by kernel_rfl) rfl rfl
              have hy_ := hk_.want 2 _ 139 true rfl rfl hg_
              have hx_ := hk_.ext
              clear hk_
              refine flow_want rfl hy_ ?_
              unfold gives
              have hc_ : ∀ v, a_.eval (.const v) = v := fun _ => rfl
              have hn_ : ∀ f, a_.eval (.func f) = .func (.func f) #[] #[] := fun _ => rfl
              clear hy_ hg_
              generalize a_.eval = ρ_ at *
              go_simp
              have hbz := hb.trans (hx_.mono hb.size)
              exact (aFree w_ (HH6.out.log.below hbz HB6.out.size) HH6.out.size).mono fun e w' ⟨h1, h2⟩ => ⟨_, h1, h2, congrArg (Value.int _) (by have h1 := HP6.out; rw [h1.1, h1.2.2.1]; omega)⟩
            refine allFrom_cons ?_ ?_
            · intro a_ w_ hk_
              have h21 : a_.eval (.tmp 21) = .int .i64 (lf : Int) := hk_.old 21 (by kernel_rfl)
              have hg_ : a_.eval (.tmp 139) = .bool true := hk_.got 2 139 _ (by kernel_rfl) rfl rfl
              have hy_ := hk_.want 2 _ 139 true rfl rfl hg_
              have hx_ := hk_.ext
              clear hk_
              refine flow_want rfl hy_ ?_
              exact gives_move rfl ⟨Below.refl _ _, h21⟩
            refine allFrom_cons ?_ ?_
            · intro a_ w_ hk_
              have h141 : a_.eval (.tmp 141) = (.int .i64 (lf : Int)) := hk_.got 4 141 _ (by kernel_rfl) rfl rfl
              have h142 : a_.eval (.tmp 142) = (.int .i64 (lf : Int)) := hk_.got 5 142 _ (by kernel_rfl) rfl rfl
              have hg_ : a_.eval (.tmp 139) = .bool true := hk_.got 2 139 _ (by kernel_rfl) rfl rfl
              have hy_ := hk_.want 2 _ 139 true rfl rfl hg_
              have hx_ := hk_.ext
              clear hk_
              refine flow_want rfl hy_ ?_
              unfold gives
              have hc_ : ∀ v, a_.eval (.const v) = v := fun _ => rfl
              have hn_ : ∀ f, a_.eval (.func f) = .func (.func f) #[] #[] := fun _ => rfl
              clear hy_ hg_
              generalize a_.eval = ρ_ at *
              go_simp
              exact ⟨Below.refl _ _, rfl⟩
            refine allFrom_cons ?_ ?_
            · intro a_ w_ hk_
              have h139 : a_.eval (.tmp 139) = (.bool true) := hk_.got 2 139 _ (by kernel_rfl) rfl rfl
              have h143 : a_.eval (.tmp 143) = (.bool true) := hk_.got 6 143 _ (by kernel_rfl) rfl rfl
              have hx_ := hk_.ext
              clear hk_
              refine flow_plain rfl ?_
              exact gives_pick rfl h139 ⟨Below.refl _ _, h143⟩
            refine allFrom_cons ?_ ?_
            · intro a_ w_ hk_
              have h144 : a_.eval (.tmp 144) = (.bool true) := hk_.got 7 144 _ (by kernel_rfl) rfl rfl
              have hx_ := hk_.ext
              clear hk_
              refine flow_plain rfl ?_
              exact gives_move rfl ⟨Below.refl _ _, h144⟩
            refine allFrom_cons ?_ ?_
            · intro a_ w_ hk_
              have h11 : a_.eval (.tmp 11) = .pointer (some ⟨gl, 0, none⟩) := hk_.old 11 (by kernel_rfl)
              have hg_ : a_.eval (.tmp 145) = .bool true := hk_.got 8 145 _ (by kernel_rfl) rfl rfl
              have hy_ := hk_.want 8 _ 145 true rfl rfl hg_
              have hx_ := hk_.ext
              clear hk_
              refine flow_want rfl hy_ ?_
              exact gives_move rfl ⟨Below.refl _ _, h11⟩
            refine allFrom_cons ?_ ?_
            · intro a_ w_ hk_
              have h146 : a_.eval (.tmp 146) = (.pointer (some ⟨gl, 0, none⟩)) := hk_.got 9 146 _ (by kernel_rfl) rfl rfl
              have hg_ : a_.eval (.tmp 145) = .bool true := hk_.got 8 145 _ (by kernel_rfl) rfl rfl
              have hy_ := hk_.want 8 _ 145 true rfl rfl hg_
              have hx_ := hk_.ext
              clear hk_
              refine flow_want rfl hy_ ?_
              unfold gives
              have hc_ : ∀ v, a_.eval (.const v) = v := fun _ => rfl
              have hn_ : ∀ f, a_.eval (.func f) = .func (.func f) #[] #[] := fun _ => rfl
              clear hy_ hg_
              generalize a_.eval = ρ_ at *
              go_simp
              have hbz := hb.trans (hx_.mono hb.size)
              exact (aSure w_ (HH6.out.log.below hbz HB6.out.size)).mono fun e w' ⟨h1, h2⟩ => ⟨_, h1, by rw [← h2]; exact Below.refl _ _, congrArg (Value.int _) (by rw [HP6.out.2.2.2.2])⟩
            refine allFrom_cons ?_ ?_
            · intro a_ w_ hk_
              have h19 : a_.eval (.tmp 19) = .int .i64 (j : Int) := hk_.old 19 (by kernel_rfl)
              have hg_ : a_.eval (.tmp 145) = .bool true := hk_.got 8 145 _ (by kernel_rfl) rfl rfl
              have hy_ := hk_.want 8 _ 145 true rfl rfl hg_
              have hx_ := hk_.ext
              clear hk_
              refine flow_want rfl hy_ ?_
              exact gives_move rfl ⟨Below.refl _ _, h19⟩
            refine allFrom_cons ?_ ?_
            · intro a_ w_ hk_
              have h147 : a_.eval (.tmp 147) = (.int .i64 (j : Int)) := hk_.got 10 147 _ (by kernel_rfl) rfl rfl
              have h148 : a_.eval (.tmp 148) = (.int .i64 (j : Int)) := hk_.got 11 148 _ (by kernel_rfl) rfl rfl
              have hg_ : a_.eval (.tmp 145) = .bool true := hk_.got 8 145 _ (by kernel_rfl) rfl rfl
              have hy_ := hk_.want 8 _ 145 true rfl rfl hg_
              have hx_ := hk_.ext
              clear hk_
              refine flow_want rfl hy_ ?_
              unfold gives
              have hc_ : ∀ v, a_.eval (.const v) = v := fun _ => rfl
              have hn_ : ∀ f, a_.eval (.func f) = .func (.func f) #[] #[] := fun _ => rfl
              clear hy_ hg_
              generalize a_.eval = ρ_ at *
              go_simp
              exact ⟨Below.refl _ _, rfl⟩
            refine allFrom_cons ?_ ?_
            · intro a_ w_ hk_
              have h145 : a_.eval (.tmp 145) = (.bool true) := hk_.got 8 145 _ (by kernel_rfl) rfl rfl
              have h149 : a_.eval (.tmp 149) = (.bool true) := hk_.got 12 149 _ (by kernel_rfl) rfl rfl
              have hx_ := hk_.ext
              clear hk_
              refine flow_plain rfl ?_
              exact gives_pick rfl h145 ⟨Below.refl _ _, h149⟩
            refine allFrom_cons ?_ ?_
            · intro a_ w_ hk_
              have h150 : a_.eval (.tmp 150) = (.bool true) := hk_.got 13 150 _ (by kernel_rfl) rfl rfl
              have hx_ := hk_.ext
              clear hk_
              refine flow_plain rfl ?_
              exact gives_move rfl ⟨Below.refl _ _, h150⟩
            refine allFrom_cons ?_ ?_
            · intro a_ w_ hk_
              have h11 : a_.eval (.tmp 11) = .pointer (some ⟨gl, 0, none⟩) := hk_.old 11 (by kernel_rfl)
              have hg_ : a_.eval (.tmp 151) = .bool true := hk_.got 14 151 _ (by kernel_rfl) rfl rfl
              have hy_ := hk_.want 14 _ 151 true rfl rfl hg_
              have hx_ := hk_.ext
              clear hk_
              refine flow_want rfl hy_ ?_
              exact gives_move rfl ⟨Below.refl _ _, h11⟩
            refine allFrom_cons ?_ ?_
            · intro a_ w_ hk_
              have h152 : a_.eval (.tmp 152) = (.pointer (some ⟨gl, 0, none⟩)) := hk_.got 15 152 _ (by kernel_rfl) rfl rfl
              have hg_ : a_.eval (.tmp 151) = .bool true := hk_.got 14 151 _ (by kernel_rfl) rfl rfl
              have hy_ := hk_.want 14 _ 151 true rfl rfl hg_
              have hx_ := hk_.ext
              clear hk_
              refine flow_want rfl hy_ ?_
              unfold gives
              have hc_ : ∀ v, a_.eval (.const v) = v := fun _ => rfl
              have hn_ : ∀ f, a_.eval (.func f) = .func (.func f) #[] #[] := fun _ => rfl
              clear hy_ hg_
              generalize a_.eval = ρ_ at *
              go_simp
              have hbz := hb.trans (hx_.mono hb.size)
              exact (records_V w_ (HH6.out.log.below hbz HB6.out.size) HH6.out.size).mono fun e w' ⟨v, h1, h2, h3⟩ => ⟨v, h1, h3, h2⟩
            refine allFrom_cons ?_ ?_
            · intro a_ w_ hk_
              have h153 : (FP.rows L6.rows).p (a_.eval (.tmp 153)) w_ := hk_.got 16 153 _ (by kernel_rfl) rfl rfl
              have hg_ : a_.eval (.tmp 151) = .bool true := hk_.got 14 151 _ (by kernel_rfl) rfl rfl
              have hy_ := hk_.want 14 _ 151 true rfl rfl hg_
              have hx_ := hk_.ext
              clear hk_
              refine flow_want rfl hy_ ?_
              unfold gives
              have hc_ : ∀ v, a_.eval (.const v) = v := fun _ => rfl
              have hn_ : ∀ f, a_.eval (.func f) = .func (.func f) #[] #[] := fun _ => rfl
              clear hy_ hg_
              obtain ⟨A153, c153, h153, r153⟩ := h153
              generalize a_.eval = ρ_ at *
              go_simp
              exact ⟨Below.refl _ _, by rw [HP6.out.2.2.2.1, hrl]; rfl⟩
            refine allFrom_cons ?_ ?_
            · intro a_ w_ hk_
              have h19 : a_.eval (.tmp 19) = .int .i64 (j : Int) := hk_.old 19 (by kernel_rfl)
              have hg_ : a_.eval (.tmp 151) = .bool true := hk_.got 14 151 _ (by kernel_rfl) rfl rfl
              have hy_ := hk_.want 14 _ 151 true rfl rfl hg_
              have hx_ := hk_.ext
              clear hk_
              refine flow_want rfl hy_ ?_
              exact gives_move rfl ⟨Below.refl _ _, h19⟩
            refine allFrom_cons ?_ ?_
            · intro a_ w_ hk_
              have h154 : a_.eval (.tmp 154) = (.int .i64 (j : Int)) := hk_.got 17 154 _ (by kernel_rfl) rfl rfl
              have h155 : a_.eval (.tmp 155) = (.int .i64 (j : Int)) := hk_.got 18 155 _ (by kernel_rfl) rfl rfl
              have hg_ : a_.eval (.tmp 151) = .bool true := hk_.got 14 151 _ (by kernel_rfl) rfl rfl
              have hy_ := hk_.want 14 _ 151 true rfl rfl hg_
              have hx_ := hk_.ext
              clear hk_
              refine flow_want rfl hy_ ?_
              unfold gives
              have hc_ : ∀ v, a_.eval (.const v) = v := fun _ => rfl
              have hn_ : ∀ f, a_.eval (.func f) = .func (.func f) #[] #[] := fun _ => rfl
              clear hy_ hg_
              generalize a_.eval = ρ_ at *
              go_simp
              exact ⟨Below.refl _ _, rfl⟩
            refine allFrom_cons ?_ ?_
            · intro a_ w_ hk_
              have h151 : a_.eval (.tmp 151) = (.bool true) := hk_.got 14 151 _ (by kernel_rfl) rfl rfl
              have h156 : a_.eval (.tmp 156) = (.bool true) := hk_.got 19 156 _ (by kernel_rfl) rfl rfl
              have hx_ := hk_.ext
              clear hk_
              refine flow_plain rfl ?_
              exact gives_pick rfl h151 ⟨Below.refl _ _, h156⟩
            refine allFrom_cons ?_ ?_
            · intro a_ w_ hk_
              have h157 : a_.eval (.tmp 157) = (.bool true) := hk_.got 20 157 _ (by kernel_rfl) rfl rfl
              have hx_ := hk_.ext
              clear hk_
              refine flow_plain rfl ?_
              exact gives_move rfl ⟨Below.refl _ _, h157⟩
            exact allFrom_nil
          intro f_ w_ hx_ hf_
          have h137 : f_ 137 = (.int .i64 0) := hf_ 0 137 _ (by decide) rfl rfl
          have h138 : f_ 138 = (.bool true) := hf_ 1 138 _ (by decide) rfl rfl
          have h139 : f_ 139 = (.bool true) := hf_ 2 139 _ (by decide) rfl rfl
          have h140 : f_ 140 = (.pointer (some ⟨gl, 0, none⟩)) := hf_ 3 140 _ (by decide) rfl rfl
          have h141 : f_ 141 = (.int .i64 (lf : Int)) := hf_ 4 141 _ (by decide) rfl rfl
          have h142 : f_ 142 = (.int .i64 (lf : Int)) := hf_ 5 142 _ (by decide) rfl rfl
          have h143 : f_ 143 = (.bool true) := hf_ 6 143 _ (by decide) rfl rfl
          have h144 : f_ 144 = (.bool true) := hf_ 7 144 _ (by decide) rfl rfl
          have h145 : f_ 145 = (.bool true) := hf_ 8 145 _ (by decide) rfl rfl
          have h146 : f_ 146 = (.pointer (some ⟨gl, 0, none⟩)) := hf_ 9 146 _ (by decide) rfl rfl
          have h147 : f_ 147 = (.int .i64 (j : Int)) := hf_ 10 147 _ (by decide) rfl rfl
          have h148 : f_ 148 = (.int .i64 (j : Int)) := hf_ 11 148 _ (by decide) rfl rfl
          have h149 : f_ 149 = (.bool true) := hf_ 12 149 _ (by decide) rfl rfl
          have h150 : f_ 150 = (.bool true) := hf_ 13 150 _ (by decide) rfl rfl
          have h151 : f_ 151 = (.bool true) := hf_ 14 151 _ (by decide) rfl rfl
          have h152 : f_ 152 = (.pointer (some ⟨gl, 0, none⟩)) := hf_ 15 152 _ (by decide) rfl rfl
          have h153 : (FP.rows L6.rows).p (f_ 153) w_ := hf_ 16 153 _ (by decide) rfl rfl
          have h154 : f_ 154 = (.int .i64 (j : Int)) := hf_ 17 154 _ (by decide) rfl rfl
          have h155 : f_ 155 = (.int .i64 (j : Int)) := hf_ 18 155 _ (by decide) rfl rfl
          have h156 : f_ 156 = (.bool true) := hf_ 19 156 _ (by decide) rfl rfl
          have h157 : f_ 157 = (.bool true) := hf_ 20 157 _ (by decide) rfl rfl
          have h158 : f_ 158 = (.bool true) := hf_ 21 158 _ (by decide) rfl rfl
          simp only [mix, h137, h138, h139, h140, h141, h142, h143, h144, h145, h146, h147, h148, h149, h150, h151, h152, h154, h155, h156, h157, h158]
          clear h137 h138 h139 h140 h141 h142 h143 h144 h145 h146 h147 h148 h149 h150 h151 h152 h154 h155 h156 h157 h158
          clear hf_
          have hbz := hb.trans (hx_.mono hb.size)
          have hhz := HH6.out.below hbz HB6.out.size
          have hbe := HB6.out.trans (hbz.mono HB6.out.size)
          have HS := hid (cSync w_ hhz r1 hbe.size (by omega) (by have := HP6.out.2.1; omega))
          clear hhz
          go_wp2_with fail
          refine HS.out.mono ?_
          rintro e w9 ⟨rfl, D9, L9, _, _, _, _, _, _, _, _, hx9⟩
          have hb9 := HBB.out.trans ((hbe.trans hx9.below).mono hBB)
          go_wp2_with fail
          exact bodyPost_ret (results_tmp rfl _ _ _) rfl ⟨rfl, hb9⟩
end Go.Proofs.Ytlpdiamgpnmeoaa
