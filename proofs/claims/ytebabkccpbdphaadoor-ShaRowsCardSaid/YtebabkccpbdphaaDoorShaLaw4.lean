/- ShaRows: its walk. -/
import Derived.Test.YtebabkccpbdphaaDoorShaLaw2
import Derived.OpenShut
namespace Go.Proofs.YtebabkccpbdphaaDoor
open Go.RowKit
set_option linter.unusedVariables false
theorem eq_hash_self (x : List UInt8) (hx : x.length = 32) (w : World) : (Op.equalIn 10000 26 (.agg (x.map cb).toArray) (.agg (x.map cb).toArray)).run Tryd.prog w = .ok true w := by
  rw [eq_hash x x hx hx w]
  simp
theorem RdB.piece {w : World} {B : Nat} {A : Option Addr} {c : Nat} {l : List UInt8} (h : Rd w B A (l.map cb)) (hc : l.length ≤ c) {k j : Nat} (hk : k ≤ j) (hj : j ≤ l.length) :
    RdB w B (.slice (if c = k then A else A.map (fun x => x.add k)) (j - k) (c - k)) ((l.drop k).take (j - k)) :=
  ⟨_, c - k, by rw [List.length_take, List.length_drop, Nat.min_eq_left (by omega)], by rw [List.length_take, List.length_drop]; omega, by rw [List.map_take, List.map_drop]; exact (h.drop (by simpa using hc)).take _⟩
theorem rdBB_four {w : World} {B : Nat} {v0 v1 v2 v3 : Value} {l0 l1 l2 l3 : List UInt8} {t : TypeId} (h0 : RdB w B v0 l0) (h1 : RdB w B v1 l1) (h2 : RdB w B v2 l2) (h3 : RdB w B v3 l3) (hB : B ≤ w.heap.size) : RdBB (w.alloc (.cells #[v0, v1, v2, v3] t)) (w.alloc (.cells #[v0, v1, v2, v3] t)).heap.size (some ⟨w.heap.size, 0, none⟩) [l0, l1, l2, l3] := by
  refine rdBB_of_row (heap_new rfl) rfl fun i u q hu hq => ?_
  have hs : B ≤ (w.alloc (.cells #[v0, v1, v2, v3] t)).heap.size := by rw [World.size_alloc]; omega
  match i, hu, hq with
  | 0, hu, hq => cases hu; cases hq; exact (h0.alloc hB _).more hs
  | 1, hu, hq => cases hu; cases hq; exact (h1.alloc hB _).more hs
  | 2, hu, hq => cases hu; cases hq; exact (h2.alloc hB _).more hs
  | 3, hu, hq => cases hu; cases hq; exact (h3.alloc hB _).more hs
theorem rdV_four {w : World} {B : Nat} {v0 v1 v2 v3 : Value} {l0 l1 l2 l3 : List UInt8} {t : TypeId} (h0 : RdB w B v0 l0) (h1 : RdB w B v1 l1) (h2 : RdB w B v2 l2) (h3 : RdB w B v3 l3) (hB : B ≤ w.heap.size) :
    Below w.heap.size w (w.alloc (.cells #[v0, v1, v2, v3] t)) ∧ (FP.rows [l0, l1, l2, l3]).p (.slice (some ⟨w.heap.size, 0, none⟩) 4 4) (w.alloc (.cells #[v0, v1, v2, v3] t)) :=
  ⟨bx_alloc (Below.refl _ _) _, _, _, rfl, rdBB_four h0 h1 h2 h3 hB⟩
set_option maxRecDepth 100000 in
set_option maxHeartbeats 1000000 in
theorem ShaRows_walk (w : World) (hL : Laid w) (A : Option Addr) (c : Nat) (l : List UInt8) (hc : l.length ≤ c) (hc2 : c ≤ maxLen) (hr : Rd w w.heap.size A (l.map cb)) (at_ : Int) (hat : (Lit.int .u16 at_).wf = true) (more : Int) (hmore : (Lit.int .u16 more).wf = true) :
    Calls Tryd.prog 3 #[.slice A l.length c, .int .u16 at_, .int .u16 more] w fun e w' => e = .returned (.bool true) ∧ Below w.heap.size w w' := by
  obtain ⟨h0, h1⟩ := bounds_u16 hat
  obtain ⟨g0, g1⟩ := bounds_u16 hmore
  clear hat hmore
  unfold maxLen at hc2
  have HL := hid hL
  have HR := hid hr
  clear hL hr
  go_enter Tryd.func3, Tryd.ntmps3
  go_wp2_with fail
  refine (awake_any _ HL.out).mono ?_
  rintro e w1 ⟨rfl, hb1⟩
  by_cases hbig : 500 < l.length
  · go_wp2_with fail
    go_ret
    exact ⟨rfl, hb1⟩
  · obtain ⟨a, rfl⟩ := Int.eq_ofNat_of_zero_le h0
    obtain ⟨b, rfl⟩ := Int.eq_ofNat_of_zero_le g0
    obtain ⟨i, hi⟩ : ∃ i, i = a % (l.length + 1) := ⟨_, rfl⟩
    obtain ⟨k, hk⟩ : ∃ k, k = b % (l.length - i + 1) := ⟨_, rfl⟩
    have hiL : i ≤ l.length := by have := Nat.mod_lt a (show 0 < l.length + 1 by omega); omega
    have hkL : i + k ≤ l.length := by have := Nat.mod_lt b (show 0 < l.length - i + 1 by omega); omega
    obtain ⟨j, hj⟩ : ∃ j, j = i + k := ⟨_, rfl⟩
    obtain ⟨n1, hn1⟩ : ∃ n1, n1 = l.length + 1 := ⟨_, rfl⟩
    obtain ⟨n2, hn2⟩ : ∃ n2, n2 = l.length - i + 1 := ⟨_, rfl⟩
    obtain ⟨n3, hn3⟩ : ∃ n3, n3 = l.length - i := ⟨_, rfl⟩
    have e1 : (l.length : Int) + 1 = (n1 : Int) := by omega
    have e2 : (a : Int).tmod (n1 : Int) = (i : Int) := (Int.tmod_eq_emod_of_nonneg (by omega)).trans (by rw [hi, hn1]; rfl)
    have e3 : (l.length : Int) - (i : Int) = (n3 : Int) := by omega
    have e4 : (n3 : Int) + 1 = (n2 : Int) := by omega
    have e5 : (b : Int).tmod (n2 : Int) = (k : Int) := (Int.tmod_eq_emod_of_nonneg (by omega)).trans (by rw [hk, hn2]; rfl)
    have e6 : (i : Int) + (k : Int) = (j : Int) := by omega
    have z1 : ((n1 : Int) == 0) = false := by simp; omega
    have z2 : ((n2 : Int) == 0) = false := by simp; omega
    have hjL : j ≤ l.length := by omega
    have hij : i ≤ j := by omega
    have hn1b : n1 ≤ 501 := by omega
    have hn2b : n2 ≤ 501 := by omega
    clear hi hk hkL hj hn1 hn2 hn3
    go_wp2
    have hcc : (j : Int) ≤ (c : Int) := by omega
    have hci : (i : Int) ≤ (c : Int) := by omega
    have hjl : (j : Int) ≤ (l.length : Int) := by omega
    have hil : (i : Int) ≤ (l.length : Int) := by omega
    have hijz : (i : Int) ≤ (j : Int) := by omega
    obtain ⟨q1, hq1⟩ : ∃ q, q = l.take i := ⟨_, rfl⟩
    obtain ⟨q2, hq2⟩ : ∃ q, q = (l.drop i).take (j - i) := ⟨_, rfl⟩
    obtain ⟨q3, hq3⟩ : ∃ q, q = l.drop j := ⟨_, rfl⟩
    obtain ⟨q4, hq4⟩ : ∃ q, q = l.drop i := ⟨_, rfl⟩
    have hf1 : [q1, q2, [], q3].flatten = l := by
      simp only [List.flatten_cons, List.flatten_nil, List.append_nil, List.nil_append]
      rw [hq1, hq2, hq3, ← List.append_assoc]
      have e : l.drop j = (l.drop i).drop (j - i) := by rw [List.drop_drop]; congr 1; omega
      rw [e, List.append_assoc, List.take_append_drop, List.take_append_drop]
    have hf2 : [[0], q1, q4].flatten = 0 :: l := by
      simp only [List.flatten_cons, List.flatten_nil, List.append_nil, List.cons_append, List.nil_append]
      rw [hq1, hq4, List.take_append_drop]
    have HQ1 := hid hq1
    have HQ2 := hid hq2
    have HQ3 := hid hq3
    have HQ4 := hid hq4
    have HF1 := hid hf1
    have HF2 := hid hf2
    clear hq1 hq2 hq3 hq4 hf1 hf2
    have HR1 := hid (HR.out.below hb1)
    have hs1 := hb1.size
    refine wp_flow (by kernel_rfl) [0, 0, 3, 0, 0, 0, 56, 0, 0, 384, 1023, 2047, 0, 4096, 16383, 32767, 65535, 131071, 262143, 131071, 131071, 131071, 3276799, 131071, 131071, 25296895, 66715647, 134217727, 268435455, 536870911, 1073741823] 31 [false, false, false, false, false, false, true, false, false, false, false, false, false, false, false, false, false, false, false, false, false, false, false, false, false, false, false, false, false, false, false, false, true, true, true, true, true, true, true, true, true, true, true, true, true, true, true, true, true, true, true, true, true, true, true, true, true, true, true, true, true, true] (by kernel_rfl) (by decide) (by kernel_rfl) [FP.eq (.slice A l.length c), FP.eq (.int .i64 (i : Int)), FP.bytes q1, FP.eq (.slice A l.length c), FP.eq (.int .i64 (i : Int)), FP.eq (.int .i64 (j : Int)), FP.bytes q2, FP.eq (.slice A l.length c), FP.eq (.int .i64 (j : Int)), FP.bytes q3, FP.rows [q1, q2, [], q3], FP.eq (.agg ((shaL l).map cb).toArray), FP.eq (.slice A l.length c), FP.rows [l], FP.eq (.agg ((shaL l).map cb).toArray), FP.eq (.bool true), FP.eq (.bool true), FP.eq (.slice A l.length c), FP.eq (.agg ((shaL (0 :: l)).map cb).toArray), FP.bytes [0], FP.eq (.slice A l.length c), FP.eq (.int .i64 (i : Int)), FP.bytes q1, FP.eq (.slice A l.length c), FP.eq (.int .i64 (i : Int)), FP.bytes q4, FP.rows [[0], q1, q4], FP.eq (.agg ((shaL (0 :: l)).map cb).toArray), FP.eq (.bool true), FP.eq (.bool true), FP.eq (.bool true)] ?_ ?_
    · refine allFrom_cons ?_ ?_
      · intro a_ w_ hk_
        have h0 : a_.eval (.tmp 0) = .slice A l.length c := hk_.old 0 (by kernel_rfl)
        have hx_ := hk_.ext
        clear hk_
        refine flow_plain rfl ?_
        exact gives_move rfl ⟨Below.refl _ _, h0⟩
      refine allFrom_cons ?_ ?_
      · intro a_ w_ hk_
        have h8 : a_.eval (.tmp 8) = .int .i64 (i : Int) := hk_.old 8 (by kernel_rfl)
        have hx_ := hk_.ext
        clear hk_
        refine flow_plain rfl ?_
        exact gives_move rfl ⟨Below.refl _ _, h8⟩
      refine allFrom_cons ?_ ?_
      · intro a_ w_ hk_
        have h32 : a_.eval (.tmp 32) = (.slice A l.length c) := hk_.got 0 32 _ (by kernel_rfl) rfl rfl
        have h33 : a_.eval (.tmp 33) = (.int .i64 (i : Int)) := hk_.got 1 33 _ (by kernel_rfl) rfl rfl
        have hx_ := hk_.ext
        clear hk_
        refine flow_plain rfl ?_
        unfold gives
        have hc_ : ∀ v, a_.eval (.const v) = v := fun _ => rfl
        have hn_ : ∀ f, a_.eval (.func f) = .func (.func f) #[] #[] := fun _ => rfl
        generalize a_.eval = ρ_ at *
        go_simp
        exact ⟨Below.refl _ _, by rw [HQ1.out]; exact (RdB.take (HR1.out.below (hx_.mono hs1)) hc hiL).more (Nat.le_trans hs1 hx_.size)⟩
      refine allFrom_cons ?_ ?_
      · intro a_ w_ hk_
        have h0 : a_.eval (.tmp 0) = .slice A l.length c := hk_.old 0 (by kernel_rfl)
        have hx_ := hk_.ext
        clear hk_
        refine flow_plain rfl ?_
        exact gives_move rfl ⟨Below.refl _ _, h0⟩
      refine allFrom_cons ?_ ?_
      · intro a_ w_ hk_
        have h8 : a_.eval (.tmp 8) = .int .i64 (i : Int) := hk_.old 8 (by kernel_rfl)
        have hx_ := hk_.ext
        clear hk_
        refine flow_plain rfl ?_
        exact gives_move rfl ⟨Below.refl _ _, h8⟩
      refine allFrom_cons ?_ ?_
      · intro a_ w_ hk_
        have h9 : a_.eval (.tmp 9) = .int .i64 (j : Int) := hk_.old 9 (by kernel_rfl)
        have hx_ := hk_.ext
        clear hk_
        refine flow_plain rfl ?_
        exact gives_move rfl ⟨Below.refl _ _, h9⟩
      refine allFrom_cons ?_ ?_
      · intro a_ w_ hk_
        have h35 : a_.eval (.tmp 35) = (.slice A l.length c) := hk_.got 3 35 _ (by kernel_rfl) rfl rfl
        have h36 : a_.eval (.tmp 36) = (.int .i64 (i : Int)) := hk_.got 4 36 _ (by kernel_rfl) rfl rfl
        have h37 : a_.eval (.tmp 37) = (.int .i64 (j : Int)) := hk_.got 5 37 _ (by kernel_rfl) rfl rfl
        have hx_ := hk_.ext
        clear hk_
        refine flow_plain rfl ?_
        unfold gives
        have hc_ : ∀ v, a_.eval (.const v) = v := fun _ => rfl
        have hn_ : ∀ f, a_.eval (.func f) = .func (.func f) #[] #[] := fun _ => rfl
        generalize a_.eval = ρ_ at *
        go_simp
        exact ⟨Below.refl _ _, by rw [HQ2.out]; exact (RdB.piece (HR1.out.below (hx_.mono hs1)) hc hij hjL).more (Nat.le_trans hs1 hx_.size)⟩
      refine allFrom_cons ?_ ?_
      · intro a_ w_ hk_
        have h0 : a_.eval (.tmp 0) = .slice A l.length c := hk_.old 0 (by kernel_rfl)
        have hx_ := hk_.ext
        clear hk_
        refine flow_plain rfl ?_
        exact gives_move rfl ⟨Below.refl _ _, h0⟩
      refine allFrom_cons ?_ ?_
      · intro a_ w_ hk_
        have h9 : a_.eval (.tmp 9) = .int .i64 (j : Int) := hk_.old 9 (by kernel_rfl)
        have hx_ := hk_.ext
        clear hk_
        refine flow_plain rfl ?_
        exact gives_move rfl ⟨Below.refl _ _, h9⟩
      refine allFrom_cons ?_ ?_
      · intro a_ w_ hk_
        have h39 : a_.eval (.tmp 39) = (.slice A l.length c) := hk_.got 7 39 _ (by kernel_rfl) rfl rfl
        have h40 : a_.eval (.tmp 40) = (.int .i64 (j : Int)) := hk_.got 8 40 _ (by kernel_rfl) rfl rfl
        have hx_ := hk_.ext
        clear hk_
        refine flow_plain rfl ?_
        unfold gives
        have hc_ : ∀ v, a_.eval (.const v) = v := fun _ => rfl
        have hn_ : ∀ f, a_.eval (.func f) = .func (.func f) #[] #[] := fun _ => rfl
        generalize a_.eval = ρ_ at *
        go_simp
        exact ⟨Below.refl _ _, by rw [HQ3.out]; exact (RdB.drop (HR1.out.below (hx_.mono hs1)) hc j).more (Nat.le_trans hs1 hx_.size)⟩
      refine allFrom_cons ?_ ?_
      · intro a_ w_ hk_
        have h34 : (FP.bytes q1).p (a_.eval (.tmp 34)) w_ := hk_.got 2 34 _ (by kernel_rfl) rfl rfl
        have h38 : (FP.bytes q2).p (a_.eval (.tmp 38)) w_ := hk_.got 6 38 _ (by kernel_rfl) rfl rfl
        have h41 : (FP.bytes q3).p (a_.eval (.tmp 41)) w_ := hk_.got 9 41 _ (by kernel_rfl) rfl rfl
        have hx_ := hk_.ext
        clear hk_
        refine flow_plain rfl ?_
        unfold gives
        have hc_ : ∀ v, a_.eval (.const v) = v := fun _ => rfl
        have hn_ : ∀ f, a_.eval (.func f) = .func (.func f) #[] #[] := fun _ => rfl
        obtain ⟨A34, c34, h34, m34, r34⟩ := h34
        obtain ⟨A38, c38, h38, m38, r38⟩ := h38
        obtain ⟨A41, c41, h41, m41, r41⟩ := h41
        generalize a_.eval = ρ_ at *
        go_simp
        exact rdV_four ⟨_, _, rfl, m34, r34⟩ ⟨_, _, rfl, m38, r38⟩ (rdB_nil _ _ _ _) ⟨_, _, rfl, m41, r41⟩ (Nat.le_refl _)
      refine allFrom_cons ?_ ?_
      · intro a_ w_ hk_
        have h42 : (FP.rows [q1, q2, [], q3]).p (a_.eval (.tmp 42)) w_ := hk_.got 10 42 _ (by kernel_rfl) rfl rfl
        have hx_ := hk_.ext
        clear hk_
        refine flow_plain rfl ?_
        unfold gives
        have hc_ : ∀ v, a_.eval (.const v) = v := fun _ => rfl
        have hn_ : ∀ f, a_.eval (.func f) = .func (.func f) #[] #[] := fun _ => rfl
        obtain ⟨A42, c42, h42, r42⟩ := h42
        generalize a_.eval = ρ_ at *
        go_simp
        exact (Of_any _ (HL.out.below (bx_trans hb1 hx_)) (ls := [q1, q2, [], q3]) r42 (Nat.le_refl _) (by simp) (by rw [HF1.out]; omega)).mono fun e w' ⟨h1, h2⟩ => ⟨_, h1, h2, by rw [HF1.out]; rfl⟩
      refine allFrom_cons ?_ ?_
      · intro a_ w_ hk_
        have h0 : a_.eval (.tmp 0) = .slice A l.length c := hk_.old 0 (by kernel_rfl)
        have hx_ := hk_.ext
        clear hk_
        refine flow_plain rfl ?_
        exact gives_move rfl ⟨Below.refl _ _, h0⟩
      refine allFrom_cons ?_ ?_
      · intro a_ w_ hk_
        have h44 : a_.eval (.tmp 44) = (.slice A l.length c) := hk_.got 12 44 _ (by kernel_rfl) rfl rfl
        have hx_ := hk_.ext
        clear hk_
        refine flow_plain rfl ?_
        unfold gives
        have hc_ : ∀ v, a_.eval (.const v) = v := fun _ => rfl
        have hn_ : ∀ f, a_.eval (.func f) = .func (.func f) #[] #[] := fun _ => rfl
        generalize a_.eval = ρ_ at *
        go_simp
        exact rdV_one (RdB.of (HR1.out.below (hx_.mono hs1)) hc) (Nat.le_trans hs1 hx_.size)
      refine allFrom_cons ?_ ?_
      · intro a_ w_ hk_
        have h45 : (FP.rows [l]).p (a_.eval (.tmp 45)) w_ := hk_.got 13 45 _ (by kernel_rfl) rfl rfl
        have hx_ := hk_.ext
        clear hk_
        refine flow_plain rfl ?_
        unfold gives
        have hc_ : ∀ v, a_.eval (.const v) = v := fun _ => rfl
        have hn_ : ∀ f, a_.eval (.func f) = .func (.func f) #[] #[] := fun _ => rfl
        obtain ⟨A45, c45, h45, r45⟩ := h45
        generalize a_.eval = ρ_ at *
        go_simp
        exact (Of_any _ (HL.out.below (bx_trans hb1 hx_)) (ls := [l]) r45 (Nat.le_refl _) (by simp) (by simp; omega)).mono fun e w' ⟨h1, h2⟩ => ⟨_, h1, h2, by simp [FP.eq]⟩
      refine allFrom_cons ?_ ?_
      · intro a_ w_ hk_
        have h43 : a_.eval (.tmp 43) = (.agg ((shaL l).map cb).toArray) := hk_.got 11 43 _ (by kernel_rfl) rfl rfl
        have h46 : a_.eval (.tmp 46) = (.agg ((shaL l).map cb).toArray) := hk_.got 14 46 _ (by kernel_rfl) rfl rfl
        have hx_ := hk_.ext
        clear hk_
        refine flow_plain rfl ?_
        unfold gives
        have hc_ : ∀ v, a_.eval (.const v) = v := fun _ => rfl
        have hn_ : ∀ f, a_.eval (.func f) = .func (.func f) #[] #[] := fun _ => rfl
        have heq := eq_hash_self (shaL l) (shaL_length _) w_
        generalize a_.eval = ρ_ at *
        go_simp
        exact ⟨Below.refl _ _, rfl⟩
      refine allFrom_cons ?_ ?_
      · intro a_ w_ hk_
        have h47 : a_.eval (.tmp 47) = (.bool true) := hk_.got 15 47 _ (by kernel_rfl) rfl rfl
        have hx_ := hk_.ext
        clear hk_
        refine flow_plain rfl ?_
        exact gives_move rfl ⟨Below.refl _ _, h47⟩
      refine allFrom_cons ?_ ?_
      · intro a_ w_ hk_
        have h0 : a_.eval (.tmp 0) = .slice A l.length c := hk_.old 0 (by kernel_rfl)
        have hg_ : a_.eval (.tmp 48) = .bool true := hk_.got 16 48 _ (by kernel_rfl) rfl rfl
        have hy_ := hk_.want 16 _ 48 true rfl rfl hg_
        have hx_ := hk_.ext
        clear hk_
        refine flow_want rfl hy_ ?_
        exact gives_move rfl ⟨Below.refl _ _, h0⟩
      refine allFrom_cons ?_ ?_
      · intro a_ w_ hk_
        have h49 : a_.eval (.tmp 49) = (.slice A l.length c) := hk_.got 17 49 _ (by kernel_rfl) rfl rfl
        have hg_ : a_.eval (.tmp 48) = .bool true := hk_.got 16 48 _ (by kernel_rfl) rfl rfl
        have hy_ := hk_.want 16 _ 48 true rfl rfl hg_
        have hx_ := hk_.ext
        clear hk_
        refine flow_want rfl hy_ ?_
        unfold gives
        have hc_ : ∀ v, a_.eval (.const v) = v := fun _ => rfl
        have hn_ : ∀ f, a_.eval (.func f) = .func (.func f) #[] #[] := fun _ => rfl
        clear hy_ hg_
        generalize a_.eval = ρ_ at *
        go_simp
        exact (Leaf_any _ (HL.out.below (bx_trans hb1 hx_)) (HR1.out.below (hx_.mono hs1)) (Nat.le_trans hs1 hx_.size) hc (by omega)).mono fun e w' ⟨h1, h2⟩ => ⟨_, h1, h2, rfl⟩
      refine allFrom_cons ?_ ?_
      · intro a_ w_ hk_
        have hg_ : a_.eval (.tmp 48) = .bool true := hk_.got 16 48 _ (by kernel_rfl) rfl rfl
        have hy_ := hk_.want 16 _ 48 true rfl rfl hg_
        have hx_ := hk_.ext
        clear hk_
        refine flow_want rfl hy_ ?_
        unfold gives
        have hc_ : ∀ v, a_.eval (.const v) = v := fun _ => rfl
        have hn_ : ∀ f, a_.eval (.func f) = .func (.func f) #[] #[] := fun _ => rfl
        clear hy_ hg_
        generalize a_.eval = ρ_ at *
        go_simp
        exact ⟨bx_alloc (Below.refl _ _) _, rdB_of_row (heap_new rfl) rfl rfl (by simp)⟩
      refine allFrom_cons ?_ ?_
      · intro a_ w_ hk_
        have h0 : a_.eval (.tmp 0) = .slice A l.length c := hk_.old 0 (by kernel_rfl)
        have hg_ : a_.eval (.tmp 48) = .bool true := hk_.got 16 48 _ (by kernel_rfl) rfl rfl
        have hy_ := hk_.want 16 _ 48 true rfl rfl hg_
        have hx_ := hk_.ext
        clear hk_
        refine flow_want rfl hy_ ?_
        exact gives_move rfl ⟨Below.refl _ _, h0⟩
      refine allFrom_cons ?_ ?_
      · intro a_ w_ hk_
        have h8 : a_.eval (.tmp 8) = .int .i64 (i : Int) := hk_.old 8 (by kernel_rfl)
        have hg_ : a_.eval (.tmp 48) = .bool true := hk_.got 16 48 _ (by kernel_rfl) rfl rfl
        have hy_ := hk_.want 16 _ 48 true rfl rfl hg_
        have hx_ := hk_.ext
        clear hk_
        refine flow_want rfl hy_ ?_
        exact gives_move rfl ⟨Below.refl _ _, h8⟩
      refine allFrom_cons ?_ ?_
      · intro a_ w_ hk_
        have h52 : a_.eval (.tmp 52) = (.slice A l.length c) := hk_.got 20 52 _ (by kernel_rfl) rfl rfl
        have h53 : a_.eval (.tmp 53) = (.int .i64 (i : Int)) := hk_.got 21 53 _ (by kernel_rfl) rfl rfl
        have hg_ : a_.eval (.tmp 48) = .bool true := hk_.got 16 48 _ (by kernel_rfl) rfl rfl
        have hy_ := hk_.want 16 _ 48 true rfl rfl hg_
        have hx_ := hk_.ext
        clear hk_
        refine flow_want rfl hy_ ?_
        unfold gives
        have hc_ : ∀ v, a_.eval (.const v) = v := fun _ => rfl
        have hn_ : ∀ f, a_.eval (.func f) = .func (.func f) #[] #[] := fun _ => rfl
        clear hy_ hg_
        generalize a_.eval = ρ_ at *
        go_simp
        exact ⟨Below.refl _ _, by rw [HQ1.out]; exact (RdB.take (HR1.out.below (hx_.mono hs1)) hc hiL).more (Nat.le_trans hs1 hx_.size)⟩
      refine allFrom_cons ?_ ?_
      · intro a_ w_ hk_
        have h0 : a_.eval (.tmp 0) = .slice A l.length c := hk_.old 0 (by kernel_rfl)
        have hg_ : a_.eval (.tmp 48) = .bool true := hk_.got 16 48 _ (by kernel_rfl) rfl rfl
        have hy_ := hk_.want 16 _ 48 true rfl rfl hg_
        have hx_ := hk_.ext
        clear hk_
        refine flow_want rfl hy_ ?_
        exact gives_move rfl ⟨Below.refl _ _, h0⟩
      refine allFrom_cons ?_ ?_
      · intro a_ w_ hk_
        have h8 : a_.eval (.tmp 8) = .int .i64 (i : Int) := hk_.old 8 (by kernel_rfl)
        have hg_ : a_.eval (.tmp 48) = .bool true := hk_.got 16 48 _ (by kernel_rfl) rfl rfl
        have hy_ := hk_.want 16 _ 48 true rfl rfl hg_
        have hx_ := hk_.ext
        clear hk_
        refine flow_want rfl hy_ ?_
        exact gives_move rfl ⟨Below.refl _ _, h8⟩
      refine allFrom_cons ?_ ?_
      · intro a_ w_ hk_
        have h55 : a_.eval (.tmp 55) = (.slice A l.length c) := hk_.got 23 55 _ (by kernel_rfl) rfl rfl
        have h56 : a_.eval (.tmp 56) = (.int .i64 (i : Int)) := hk_.got 24 56 _ (by kernel_rfl) rfl rfl
        have hg_ : a_.eval (.tmp 48) = .bool true := hk_.got 16 48 _ (by kernel_rfl) rfl rfl
        have hy_ := hk_.want 16 _ 48 true rfl rfl hg_
        have hx_ := hk_.ext
        clear hk_
        refine flow_want rfl hy_ ?_
        unfold gives
        have hc_ : ∀ v, a_.eval (.const v) = v := fun _ => rfl
        have hn_ : ∀ f, a_.eval (.func f) = .func (.func f) #[] #[] := fun _ => rfl
        clear hy_ hg_
        generalize a_.eval = ρ_ at *
        go_simp
        exact ⟨Below.refl _ _, by rw [HQ4.out]; exact (RdB.drop (HR1.out.below (hx_.mono hs1)) hc i).more (Nat.le_trans hs1 hx_.size)⟩
      refine allFrom_cons ?_ ?_
      · intro a_ w_ hk_
        have h51 : (FP.bytes [0]).p (a_.eval (.tmp 51)) w_ := hk_.got 19 51 _ (by kernel_rfl) rfl rfl
        have h54 : (FP.bytes q1).p (a_.eval (.tmp 54)) w_ := hk_.got 22 54 _ (by kernel_rfl) rfl rfl
        have h57 : (FP.bytes q4).p (a_.eval (.tmp 57)) w_ := hk_.got 25 57 _ (by kernel_rfl) rfl rfl
        have hg_ : a_.eval (.tmp 48) = .bool true := hk_.got 16 48 _ (by kernel_rfl) rfl rfl
        have hy_ := hk_.want 16 _ 48 true rfl rfl hg_
        have hx_ := hk_.ext
        clear hk_
        refine flow_want rfl hy_ ?_
        unfold gives
        have hc_ : ∀ v, a_.eval (.const v) = v := fun _ => rfl
        have hn_ : ∀ f, a_.eval (.func f) = .func (.func f) #[] #[] := fun _ => rfl
        clear hy_ hg_
        obtain ⟨A51, c51, h51, m51, r51⟩ := h51
        obtain ⟨A54, c54, h54, m54, r54⟩ := h54
        obtain ⟨A57, c57, h57, m57, r57⟩ := h57
        generalize a_.eval = ρ_ at *
        go_simp
        exact rdV_three ⟨_, _, rfl, m51, r51⟩ ⟨_, _, rfl, m54, r54⟩ ⟨_, _, rfl, m57, r57⟩ (Nat.le_refl _)
      refine allFrom_cons ?_ ?_
      · intro a_ w_ hk_
        have h58 : (FP.rows [[0], q1, q4]).p (a_.eval (.tmp 58)) w_ := hk_.got 26 58 _ (by kernel_rfl) rfl rfl
        have hg_ : a_.eval (.tmp 48) = .bool true := hk_.got 16 48 _ (by kernel_rfl) rfl rfl
        have hy_ := hk_.want 16 _ 48 true rfl rfl hg_
        have hx_ := hk_.ext
        clear hk_
        refine flow_want rfl hy_ ?_
        unfold gives
        have hc_ : ∀ v, a_.eval (.const v) = v := fun _ => rfl
        have hn_ : ∀ f, a_.eval (.func f) = .func (.func f) #[] #[] := fun _ => rfl
        clear hy_ hg_
        obtain ⟨A58, c58, h58, r58⟩ := h58
        generalize a_.eval = ρ_ at *
        go_simp
        exact (Of_any _ (HL.out.below (bx_trans hb1 hx_)) (ls := [[0], q1, q4]) r58 (Nat.le_refl _) (by simp) (by rw [HF2.out]; simp; omega)).mono fun e w' ⟨h1, h2⟩ => ⟨_, h1, h2, by rw [HF2.out]; rfl⟩
      refine allFrom_cons ?_ ?_
      · intro a_ w_ hk_
        have h50 : a_.eval (.tmp 50) = (.agg ((shaL (0 :: l)).map cb).toArray) := hk_.got 18 50 _ (by kernel_rfl) rfl rfl
        have h59 : a_.eval (.tmp 59) = (.agg ((shaL (0 :: l)).map cb).toArray) := hk_.got 27 59 _ (by kernel_rfl) rfl rfl
        have hg_ : a_.eval (.tmp 48) = .bool true := hk_.got 16 48 _ (by kernel_rfl) rfl rfl
        have hy_ := hk_.want 16 _ 48 true rfl rfl hg_
        have hx_ := hk_.ext
        clear hk_
        refine flow_want rfl hy_ ?_
        unfold gives
        have hc_ : ∀ v, a_.eval (.const v) = v := fun _ => rfl
        have hn_ : ∀ f, a_.eval (.func f) = .func (.func f) #[] #[] := fun _ => rfl
        clear hy_ hg_
        have heq := eq_hash_self (shaL (0 :: l)) (shaL_length _) w_
        generalize a_.eval = ρ_ at *
        go_simp
        exact ⟨Below.refl _ _, rfl⟩
      refine allFrom_cons ?_ ?_
      · intro a_ w_ hk_
        have h48 : a_.eval (.tmp 48) = (.bool true) := hk_.got 16 48 _ (by kernel_rfl) rfl rfl
        have h60 : a_.eval (.tmp 60) = (.bool true) := hk_.got 28 60 _ (by kernel_rfl) rfl rfl
        have hx_ := hk_.ext
        clear hk_
        refine flow_plain rfl ?_
        exact gives_pick rfl h48 ⟨Below.refl _ _, h60⟩
      refine allFrom_cons ?_ ?_
      · intro a_ w_ hk_
        have h61 : a_.eval (.tmp 61) = (.bool true) := hk_.got 29 61 _ (by kernel_rfl) rfl rfl
        have hx_ := hk_.ext
        clear hk_
        refine flow_plain rfl ?_
        exact gives_assign rfl ⟨Below.refl _ _, h61⟩
      exact allFrom_nil
    intro f_ w_ hx_ hf_
    have h32 : f_ 32 = (.slice A l.length c) := hf_ 0 32 _ (by decide) rfl rfl
    have h33 : f_ 33 = (.int .i64 (i : Int)) := hf_ 1 33 _ (by decide) rfl rfl
    have h34 : (FP.bytes q1).p (f_ 34) w_ := hf_ 2 34 _ (by decide) rfl rfl
    have h35 : f_ 35 = (.slice A l.length c) := hf_ 3 35 _ (by decide) rfl rfl
    have h36 : f_ 36 = (.int .i64 (i : Int)) := hf_ 4 36 _ (by decide) rfl rfl
    have h37 : f_ 37 = (.int .i64 (j : Int)) := hf_ 5 37 _ (by decide) rfl rfl
    have h38 : (FP.bytes q2).p (f_ 38) w_ := hf_ 6 38 _ (by decide) rfl rfl
    have h39 : f_ 39 = (.slice A l.length c) := hf_ 7 39 _ (by decide) rfl rfl
    have h40 : f_ 40 = (.int .i64 (j : Int)) := hf_ 8 40 _ (by decide) rfl rfl
    have h41 : (FP.bytes q3).p (f_ 41) w_ := hf_ 9 41 _ (by decide) rfl rfl
    have h42 : (FP.rows [q1, q2, [], q3]).p (f_ 42) w_ := hf_ 10 42 _ (by decide) rfl rfl
    have h43 : f_ 43 = (.agg ((shaL l).map cb).toArray) := hf_ 11 43 _ (by decide) rfl rfl
    have h44 : f_ 44 = (.slice A l.length c) := hf_ 12 44 _ (by decide) rfl rfl
    have h45 : (FP.rows [l]).p (f_ 45) w_ := hf_ 13 45 _ (by decide) rfl rfl
    have h46 : f_ 46 = (.agg ((shaL l).map cb).toArray) := hf_ 14 46 _ (by decide) rfl rfl
    have h47 : f_ 47 = (.bool true) := hf_ 15 47 _ (by decide) rfl rfl
    have h48 : f_ 48 = (.bool true) := hf_ 16 48 _ (by decide) rfl rfl
    have h49 : f_ 49 = (.slice A l.length c) := hf_ 17 49 _ (by decide) rfl rfl
    have h50 : f_ 50 = (.agg ((shaL (0 :: l)).map cb).toArray) := hf_ 18 50 _ (by decide) rfl rfl
    have h51 : (FP.bytes [0]).p (f_ 51) w_ := hf_ 19 51 _ (by decide) rfl rfl
    have h52 : f_ 52 = (.slice A l.length c) := hf_ 20 52 _ (by decide) rfl rfl
    have h53 : f_ 53 = (.int .i64 (i : Int)) := hf_ 21 53 _ (by decide) rfl rfl
    have h54 : (FP.bytes q1).p (f_ 54) w_ := hf_ 22 54 _ (by decide) rfl rfl
    have h55 : f_ 55 = (.slice A l.length c) := hf_ 23 55 _ (by decide) rfl rfl
    have h56 : f_ 56 = (.int .i64 (i : Int)) := hf_ 24 56 _ (by decide) rfl rfl
    have h57 : (FP.bytes q4).p (f_ 57) w_ := hf_ 25 57 _ (by decide) rfl rfl
    have h58 : (FP.rows [[0], q1, q4]).p (f_ 58) w_ := hf_ 26 58 _ (by decide) rfl rfl
    have h59 : f_ 59 = (.agg ((shaL (0 :: l)).map cb).toArray) := hf_ 27 59 _ (by decide) rfl rfl
    have h60 : f_ 60 = (.bool true) := hf_ 28 60 _ (by decide) rfl rfl
    have h61 : f_ 61 = (.bool true) := hf_ 29 61 _ (by decide) rfl rfl
    have h6 : f_ 6 = (.bool true) := hf_ 30 6 _ (by decide) rfl rfl
    simp only [mix, List.drop_succ_cons, List.drop_zero, h32, h33, h35, h36, h37, h39, h40, h43, h44, h46, h47, h48, h49, h50, h52, h53, h55, h56, h59, h60, h61, h6]
    clear h32 h33 h35 h36 h37 h39 h40 h43 h44 h46 h47 h48 h49 h50 h52 h53 h55 h56 h59 h60 h61 h6
    clear hf_
    go_wp2
    go_ret
    exact ⟨rfl, bx_trans hb1 hx_⟩
end Go.Proofs.YtebabkccpbdphaaDoor
