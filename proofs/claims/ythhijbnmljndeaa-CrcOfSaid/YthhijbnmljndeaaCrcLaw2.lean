/- The laws of crc: their walks. -/
import Derived.Test.YthhijbnmljndeaaCrcLaws
import Derived.Test.YthhijbnmljndeaaFlow
import Derived.OpenShut
namespace Go.Proofs.Ythhijbnmljndeaa
open Go.RowKit
set_option maxHeartbeats 1000000 in
theorem CrcOf_walk (w : World) (A : Option Addr) (c : Nat) (l : List UInt8) (hc : l.length ≤ c) (_hc2 : c ≤ maxLen) (hr : Rd w w.heap.size A (l.map cb)) (at_ : Int) (hat : (Lit.int .u16 at_).wf = true) :
    Calls Try.prog 3 #[.slice A l.length c, .int .u16 at_] w fun e w' => e = .returned (.bool true) ∧ Below w.heap.size w w' := by
  obtain ⟨h0, h1⟩ := bounds_u16 hat
  clear hat
  unfold maxLen at _hc2
  go_enter Try.func3, Try.ntmps3
  go_wp2_with fail
  refine (awake_any _).mono ?_
  rintro e w1 ⟨rfl, hb1⟩
  have hr1 := (hr.below hb1)
  by_cases hbig : 500 < l.length
  · go_wp2_with fail
    go_ret
    exact ⟨rfl, by repeat (first | exact Below.refl _ _ | apply bx_alloc | refine bx_trans ?_ (by assumption))⟩
  · have hcs := conv_str Try.underlying22 Try.underlying5 Try.underlying9 c hr1
    go_wp2_with fail
    refine (refCrc_any _ _ (by simp [ByteArray.size]; omega)).mono ?_
    rintro e w2 ⟨rfl, rfl⟩
    go_wp2_with fail
    have hk0 : 0 ≤ at_ % ((l.length : Int) + 1) := Int.emod_nonneg _ (by omega)
    have hk1 : at_ % ((l.length : Int) + 1) < (l.length : Int) + 1 := Int.emod_lt_of_pos _ (by omega)
    obtain ⟨k, hk⟩ := Int.eq_ofNat_of_zero_le hk0
    rw [hk] at hk1 ⊢
    clear hk hk0
    have hk2 : (k : Int) ≤ (l.length : Int) := by clear hr hr1; omega
    have hk3 : (k : Int) ≤ (c : Int) := by omega
    have hkl : k ≤ l.length := by omega
    clear hcs
    refine wp_flow (by kernel_rfl) [0, 1, 3, 0, 15, 31, 63, 63, 255, 63, 63, 1599, 4095, 8191, 63, 32767, 65535, 131071] 17 [false, false, false, false, false, false, false, false, false, false, false, false, false, false, false, false, false, false, false, false, false, false, false, true, true, true, true, true, true, true, true, true, true, true, true, true, true, true, true, true] (by kernel_rfl) (by decide) (by kernel_rfl) [FP.eq (.slice A l.length c), FP.rows [l], FP.eq (.int .u32 (crc l : Nat)), FP.eq (.int .u32 (crc l : Nat)), FP.eq (.bool true), FP.eq (.bool true), FP.eq (.slice A l.length c), FP.eq (.int .i64 (k : Int)), FP.bytes (l.take k), FP.eq (.slice A l.length c), FP.eq (.int .i64 (k : Int)), FP.bytes (l.drop k), FP.rows [l.take k, l.drop k], FP.eq (.int .u32 (crc l : Nat)), FP.eq (.int .u32 (crc l : Nat)), FP.eq (.bool true), FP.eq (.bool true)] ?_ ?_
    · refine allFrom_cons ?_ ?_
      · intro a_ w_ hk_
        have h0 : a_.eval (.tmp 0) = .slice A l.length c := hk_.old 0 (by kernel_rfl)
        have hx_ := hk_.ext
        clear hk_
        refine flow_plain rfl ?_
        exact gives_move rfl ⟨Below.refl _ _, h0⟩
      refine allFrom_cons ?_ ?_
      · intro a_ w_ hk_
        have h23 : a_.eval (.tmp 23) = (.slice A l.length c) := hk_.got 0 23 _ (by kernel_rfl) rfl rfl
        have hx_ := hk_.ext
        clear hk_
        refine flow_plain rfl ?_
        unfold gives
        have hc_ : ∀ v, a_.eval (.const v) = v := fun _ => rfl
        have hn_ : ∀ f, a_.eval (.func f) = .func (.func f) #[] #[] := fun _ => rfl
        generalize a_.eval = ρ_ at *
        go_simp
        exact rdV_one (B := w.heap.size) (RdB.of (hr1.below (hx_.mono hb1.size)) hc) (Nat.le_trans hb1.size hx_.size)
      refine allFrom_cons ?_ ?_
      · intro a_ w_ hk_
        have h24 : (FP.rows [l]).p (a_.eval (.tmp 24)) w_ := hk_.got 1 24 _ (by kernel_rfl) rfl rfl
        have hx_ := hk_.ext
        clear hk_
        refine flow_plain rfl ?_
        unfold gives
        have hc_ : ∀ v, a_.eval (.const v) = v := fun _ => rfl
        have hn_ : ∀ f, a_.eval (.func f) = .func (.func f) #[] #[] := fun _ => rfl
        obtain ⟨A24, c24, h24, r24⟩ := h24
        generalize a_.eval = ρ_ at *
        go_simp
        exact (crcOf_any _ _ _ [l] (by simp) (by simp; omega) r24).mono fun e w' he => ⟨_, he.1, he.2, by simp [FP.eq]⟩
      refine allFrom_cons ?_ ?_
      · intro a_ w_ hk_
        have h7 : a_.eval (.tmp 7) = .int .u32 (crc l : Nat) := hk_.old 7 (by kernel_rfl)
        have hx_ := hk_.ext
        clear hk_
        refine flow_plain rfl ?_
        exact gives_move rfl ⟨Below.refl _ _, h7⟩
      refine allFrom_cons ?_ ?_
      · intro a_ w_ hk_
        have h25 : a_.eval (.tmp 25) = (.int .u32 (crc l : Nat)) := hk_.got 2 25 _ (by kernel_rfl) rfl rfl
        have h26 : a_.eval (.tmp 26) = (.int .u32 (crc l : Nat)) := hk_.got 3 26 _ (by kernel_rfl) rfl rfl
        have hx_ := hk_.ext
        clear hk_
        refine flow_plain rfl ?_
        unfold gives
        have hc_ : ∀ v, a_.eval (.const v) = v := fun _ => rfl
        have hn_ : ∀ f, a_.eval (.func f) = .func (.func f) #[] #[] := fun _ => rfl
        generalize a_.eval = ρ_ at *
        go_simp
        exact ⟨Below.refl _ _, rfl⟩
      refine allFrom_cons ?_ ?_
      · intro a_ w_ hk_
        have h27 : a_.eval (.tmp 27) = (.bool true) := hk_.got 4 27 _ (by kernel_rfl) rfl rfl
        have hx_ := hk_.ext
        clear hk_
        refine flow_plain rfl ?_
        exact gives_move rfl ⟨Below.refl _ _, h27⟩
      refine allFrom_cons ?_ ?_
      · intro a_ w_ hk_
        have h0 : a_.eval (.tmp 0) = .slice A l.length c := hk_.old 0 (by kernel_rfl)
        have hg_ : a_.eval (.tmp 28) = .bool true := hk_.got 5 28 _ (by kernel_rfl) rfl rfl
        have hy_ := hk_.want 5 _ 28 true rfl rfl hg_
        have hx_ := hk_.ext
        clear hk_
        refine flow_want rfl hy_ ?_
        exact gives_move rfl ⟨Below.refl _ _, h0⟩
      refine allFrom_cons ?_ ?_
      · intro a_ w_ hk_
        have h6 : a_.eval (.tmp 6) = .int .i64 (k : Int) := hk_.old 6 (by kernel_rfl)
        have hg_ : a_.eval (.tmp 28) = .bool true := hk_.got 5 28 _ (by kernel_rfl) rfl rfl
        have hy_ := hk_.want 5 _ 28 true rfl rfl hg_
        have hx_ := hk_.ext
        clear hk_
        refine flow_want rfl hy_ ?_
        exact gives_move rfl ⟨Below.refl _ _, h6⟩
      refine allFrom_cons ?_ ?_
      · intro a_ w_ hk_
        have h29 : a_.eval (.tmp 29) = (.slice A l.length c) := hk_.got 6 29 _ (by kernel_rfl) rfl rfl
        have h30 : a_.eval (.tmp 30) = (.int .i64 (k : Int)) := hk_.got 7 30 _ (by kernel_rfl) rfl rfl
        have hg_ : a_.eval (.tmp 28) = .bool true := hk_.got 5 28 _ (by kernel_rfl) rfl rfl
        have hy_ := hk_.want 5 _ 28 true rfl rfl hg_
        have hx_ := hk_.ext
        clear hk_
        refine flow_want rfl hy_ ?_
        unfold gives
        have hc_ : ∀ v, a_.eval (.const v) = v := fun _ => rfl
        have hn_ : ∀ f, a_.eval (.func f) = .func (.func f) #[] #[] := fun _ => rfl
        clear hy_ hg_
        generalize a_.eval = ρ_ at *
        go_simp
        exact ⟨Below.refl _ _, (RdB.take (hr1.below (hx_.mono hb1.size)) hc hkl).more (Nat.le_trans hb1.size hx_.size)⟩
      refine allFrom_cons ?_ ?_
      · intro a_ w_ hk_
        have h0 : a_.eval (.tmp 0) = .slice A l.length c := hk_.old 0 (by kernel_rfl)
        have hg_ : a_.eval (.tmp 28) = .bool true := hk_.got 5 28 _ (by kernel_rfl) rfl rfl
        have hy_ := hk_.want 5 _ 28 true rfl rfl hg_
        have hx_ := hk_.ext
        clear hk_
        refine flow_want rfl hy_ ?_
        exact gives_move rfl ⟨Below.refl _ _, h0⟩
      refine allFrom_cons ?_ ?_
      · intro a_ w_ hk_
        have h6 : a_.eval (.tmp 6) = .int .i64 (k : Int) := hk_.old 6 (by kernel_rfl)
        have hg_ : a_.eval (.tmp 28) = .bool true := hk_.got 5 28 _ (by kernel_rfl) rfl rfl
        have hy_ := hk_.want 5 _ 28 true rfl rfl hg_
        have hx_ := hk_.ext
        clear hk_
        refine flow_want rfl hy_ ?_
        exact gives_move rfl ⟨Below.refl _ _, h6⟩
      refine allFrom_cons ?_ ?_
      · intro a_ w_ hk_
        have h32 : a_.eval (.tmp 32) = (.slice A l.length c) := hk_.got 9 32 _ (by kernel_rfl) rfl rfl
        have h33 : a_.eval (.tmp 33) = (.int .i64 (k : Int)) := hk_.got 10 33 _ (by kernel_rfl) rfl rfl
        have hg_ : a_.eval (.tmp 28) = .bool true := hk_.got 5 28 _ (by kernel_rfl) rfl rfl
        have hy_ := hk_.want 5 _ 28 true rfl rfl hg_
        have hx_ := hk_.ext
        clear hk_
        refine flow_want rfl hy_ ?_
        unfold gives
        have hc_ : ∀ v, a_.eval (.const v) = v := fun _ => rfl
        have hn_ : ∀ f, a_.eval (.func f) = .func (.func f) #[] #[] := fun _ => rfl
        clear hy_ hg_
        generalize a_.eval = ρ_ at *
        go_simp
        exact ⟨Below.refl _ _, (RdB.drop (hr1.below (hx_.mono hb1.size)) hc k).more (Nat.le_trans hb1.size hx_.size)⟩
      refine allFrom_cons ?_ ?_
      · intro a_ w_ hk_
        have h31 : (FP.bytes (l.take k)).p (a_.eval (.tmp 31)) w_ := hk_.got 8 31 _ (by kernel_rfl) rfl rfl
        have h34 : (FP.bytes (l.drop k)).p (a_.eval (.tmp 34)) w_ := hk_.got 11 34 _ (by kernel_rfl) rfl rfl
        have hg_ : a_.eval (.tmp 28) = .bool true := hk_.got 5 28 _ (by kernel_rfl) rfl rfl
        have hy_ := hk_.want 5 _ 28 true rfl rfl hg_
        have hx_ := hk_.ext
        clear hk_
        refine flow_want rfl hy_ ?_
        unfold gives
        have hc_ : ∀ v, a_.eval (.const v) = v := fun _ => rfl
        have hn_ : ∀ f, a_.eval (.func f) = .func (.func f) #[] #[] := fun _ => rfl
        clear hy_ hg_
        obtain ⟨A31, c31, h31, m31, r31⟩ := h31
        obtain ⟨A34, c34, h34, m34, r34⟩ := h34
        generalize a_.eval = ρ_ at *
        go_simp
        rw [show Value.slice A31 k c31 = Value.slice A31 (l.take k).length c31 by rw [List.length_take, Nat.min_eq_left hkl], show Value.slice A34 (l.length - k) c34 = Value.slice A34 (l.drop k).length c34 by rw [List.length_drop]]
        exact rdV_two (RdB.of r31 m31) (RdB.of r34 m34) (Nat.le_refl _)
      refine allFrom_cons ?_ ?_
      · intro a_ w_ hk_
        have h35 : (FP.rows [l.take k, l.drop k]).p (a_.eval (.tmp 35)) w_ := hk_.got 12 35 _ (by kernel_rfl) rfl rfl
        have hg_ : a_.eval (.tmp 28) = .bool true := hk_.got 5 28 _ (by kernel_rfl) rfl rfl
        have hy_ := hk_.want 5 _ 28 true rfl rfl hg_
        have hx_ := hk_.ext
        clear hk_
        refine flow_want rfl hy_ ?_
        unfold gives
        have hc_ : ∀ v, a_.eval (.const v) = v := fun _ => rfl
        have hn_ : ∀ f, a_.eval (.func f) = .func (.func f) #[] #[] := fun _ => rfl
        clear hy_ hg_
        obtain ⟨A35, c35, h35, r35⟩ := h35
        generalize a_.eval = ρ_ at *
        go_simp
        exact (crcOf_any _ _ _ [l.take k, l.drop k] (by simp) (by simp; omega) r35).mono fun e w' he => ⟨_, he.1, he.2, by simp [FP.eq]⟩
      refine allFrom_cons ?_ ?_
      · intro a_ w_ hk_
        have h7 : a_.eval (.tmp 7) = .int .u32 (crc l : Nat) := hk_.old 7 (by kernel_rfl)
        have hg_ : a_.eval (.tmp 28) = .bool true := hk_.got 5 28 _ (by kernel_rfl) rfl rfl
        have hy_ := hk_.want 5 _ 28 true rfl rfl hg_
        have hx_ := hk_.ext
        clear hk_
        refine flow_want rfl hy_ ?_
        exact gives_move rfl ⟨Below.refl _ _, h7⟩
      refine allFrom_cons ?_ ?_
      · intro a_ w_ hk_
        have h36 : a_.eval (.tmp 36) = (.int .u32 (crc l : Nat)) := hk_.got 13 36 _ (by kernel_rfl) rfl rfl
        have h37 : a_.eval (.tmp 37) = (.int .u32 (crc l : Nat)) := hk_.got 14 37 _ (by kernel_rfl) rfl rfl
        have hg_ : a_.eval (.tmp 28) = .bool true := hk_.got 5 28 _ (by kernel_rfl) rfl rfl
        have hy_ := hk_.want 5 _ 28 true rfl rfl hg_
        have hx_ := hk_.ext
        clear hk_
        refine flow_want rfl hy_ ?_
        unfold gives
        have hc_ : ∀ v, a_.eval (.const v) = v := fun _ => rfl
        have hn_ : ∀ f, a_.eval (.func f) = .func (.func f) #[] #[] := fun _ => rfl
        clear hy_ hg_
        generalize a_.eval = ρ_ at *
        go_simp
        exact ⟨Below.refl _ _, rfl⟩
      refine allFrom_cons ?_ ?_
      · intro a_ w_ hk_
        have h28 : a_.eval (.tmp 28) = (.bool true) := hk_.got 5 28 _ (by kernel_rfl) rfl rfl
        have h38 : a_.eval (.tmp 38) = (.bool true) := hk_.got 15 38 _ (by kernel_rfl) rfl rfl
        have hx_ := hk_.ext
        clear hk_
        refine flow_plain rfl ?_
        exact gives_pick rfl h28 ⟨Below.refl _ _, h38⟩
      exact allFrom_nil
    intro f_ w_ hx_ hf_
    have h23 : f_ 23 = (.slice A l.length c) := hf_ 0 23 _ (by decide) rfl rfl
    have h24 : (FP.rows [l]).p (f_ 24) w_ := hf_ 1 24 _ (by decide) rfl rfl
    have h25 : f_ 25 = (.int .u32 (crc l : Nat)) := hf_ 2 25 _ (by decide) rfl rfl
    have h26 : f_ 26 = (.int .u32 (crc l : Nat)) := hf_ 3 26 _ (by decide) rfl rfl
    have h27 : f_ 27 = (.bool true) := hf_ 4 27 _ (by decide) rfl rfl
    have h28 : f_ 28 = (.bool true) := hf_ 5 28 _ (by decide) rfl rfl
    have h29 : f_ 29 = (.slice A l.length c) := hf_ 6 29 _ (by decide) rfl rfl
    have h30 : f_ 30 = (.int .i64 (k : Int)) := hf_ 7 30 _ (by decide) rfl rfl
    have h31 : (FP.bytes (l.take k)).p (f_ 31) w_ := hf_ 8 31 _ (by decide) rfl rfl
    have h32 : f_ 32 = (.slice A l.length c) := hf_ 9 32 _ (by decide) rfl rfl
    have h33 : f_ 33 = (.int .i64 (k : Int)) := hf_ 10 33 _ (by decide) rfl rfl
    have h34 : (FP.bytes (l.drop k)).p (f_ 34) w_ := hf_ 11 34 _ (by decide) rfl rfl
    have h35 : (FP.rows [l.take k, l.drop k]).p (f_ 35) w_ := hf_ 12 35 _ (by decide) rfl rfl
    have h36 : f_ 36 = (.int .u32 (crc l : Nat)) := hf_ 13 36 _ (by decide) rfl rfl
    have h37 : f_ 37 = (.int .u32 (crc l : Nat)) := hf_ 14 37 _ (by decide) rfl rfl
    have h38 : f_ 38 = (.bool true) := hf_ 15 38 _ (by decide) rfl rfl
    have h39 : f_ 39 = (.bool true) := hf_ 16 39 _ (by decide) rfl rfl
    simp only [mix, List.drop_succ_cons, List.drop_zero, h23, h25, h26, h27, h28, h29, h30, h32, h33, h36, h37, h38, h39]
    clear h23 h25 h26 h27 h28 h29 h30 h32 h33 h36 h37 h38 h39
    clear hf_
    go_wp2
    go_ret
    exact ⟨rfl, by repeat (first | exact Below.refl _ _ | apply bx_alloc | refine bx_trans ?_ (by assumption))⟩
end Go.Proofs.Ythhijbnmljndeaa
