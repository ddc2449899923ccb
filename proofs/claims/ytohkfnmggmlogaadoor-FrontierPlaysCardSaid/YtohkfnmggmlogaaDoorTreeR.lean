
/- Trees: Root. -/
import Derived.Test.YtohkfnmggmlogaaDoorChA
import Derived.Test.YtohkfnmggmlogaaDoorTree
namespace Go.Proofs.YtohkfnmggmlogaaDoor
open Go.RowKit
set_option linter.unusedVariables false
theorem RdBB.takeL {w : World} {B : Nat} {A : Option Addr} {ls : List (List UInt8)} (h : RdBB w B A ls) (k : Nat) : RdBB w B A (ls.take k) := by
  rcases h with h | ⟨b, off, h1, h2, h3⟩
  · subst h; simp [RdBB]
  · refine .inr ⟨b, off, h1, h2, fun i l hl => h3 i l ?_⟩
    rw [List.getElem?_take] at hl
    split at hl
    · exact hl
    · cases hl
theorem RdBB.dropL {w : World} {B b off : Nat} {ls : List (List UInt8)} (h : RdBB w B (some ⟨b, off, none⟩) ls) (k : Nat) : RdBB w B (some ⟨b, off + k, none⟩) (ls.drop k) := by
  rcases h with h | ⟨b', off', h1, h2, h3⟩
  · subst h; simp [RdBB]
  · injection h1 with h1
    injection h1 with h4 h5
    subst h4 h5
    refine .inr ⟨b, off + k, rfl, h2, fun i l hl => ?_⟩
    rw [List.getElem?_drop] at hl
    rw [Nat.add_assoc]
    exact h3 _ l hl
theorem u64_len (n : Nat) (h : n ≤ 140737488355328) : IntKind.u64.wrap (n : Int) = (n : Int) := by simp only [IntKind.wrap, IntKind.bits, IntKind.signed]; simp; omega
set_option maxRecDepth 10000 in
set_option maxHeartbeats 1000000 in
theorem Root_any : ∀ (n : Nat) (w : World) (ls : List (List UInt8)) (m : Nat) (A : Option Addr) (c B' : Nat), ls.length = m → m ≤ n → Laid w → RdBB w B' A ls → B' ≤ w.heap.size → m ≤ c → m ≤ 140737488355328 → (∀ l ∈ ls, l.length ≤ 800000000) →
    Calls Tryd.prog 22 #[.slice A m c] w fun e w' => e = .returned (.agg ((treeR ls).map cb).toArray) ∧ Below w.heap.size w w' := by
  intro n
  induction n with
  | zero =>
    intro w ls m A c B' hm hn hL hr hB hc hc2 hlen
    obtain rfl : m = 0 := by omega
    have h0 : ls = [] := List.eq_nil_of_length_eq_zero hm
    subst h0
    rw [treeR_nil]
    have HL := hid hL
    clear hL hr hlen hm
    go_enter Tryd.func22, Tryd.ntmps22
    go_wp2_with (refine wpList_alloc rfl _ rfl zeroH ?_; intro g2 w2 hg2 hg2' hblk2 hb2)
    refine (Of_any w2 (HL.out.below hb2) (A := none) (c := 0) (B' := 0) (ls := []) (.inl rfl) (Nat.zero_le _) (by simp) (by simp)).mono ?_
    rintro e w5 ⟨rfl, hb5⟩
    rw [show ([] : List (List UInt8)).flatten = [] from rfl]
    have hl := shaL_length []
    have hblk5 := hblk2.below hb5 hg2'
    have hb05 := bx_trans hb2 hb5
    obtain ⟨H, hH⟩ : ∃ H, H = shaL [] := ⟨_, rfl⟩
    rw [← hH] at hl ⊢
    have HH := hid hH
    clear hH
    go_wp2_with (refine wpList_store_agg rfl _ _ _ rfl _ _ rfl (H.map cb).toArray rfl (aggHS hl) hblk5 (szH hl) (one_cbA H) ?_; intro w6 hput)
    rw [splH hl] at hput
    exact bodyPost_ret (results_agg (cs := H.map cb) rfl rfl (aggHL hl) (blk_cells hput.blk)) rfl ⟨by rw [HH.out], bx_put hb05 hput hg2⟩
  | succ n ih =>
    intro w ls m A c B' hm hn hL hr hB hc hc2 hlen
    by_cases h0 : m = 0
    · subst h0
      exact ih w ls 0 A c B' hm (Nat.zero_le _) hL hr hB hc hc2 hlen
    obtain ⟨b, off, A1, c1, rfl, hbB, hcell, hl1, hrd1⟩ := hr.at_ (k := 0) (by omega)
    by_cases h1 : m = 1
    · subst h1
      obtain ⟨x, rfl⟩ := List.length_eq_one_iff.1 hm
      rw [treeR_one]
      unfold leafL
      have hx := hlen x (by simp)
      simp only [List.getElem_cons_zero, Nat.add_zero] at hcell hl1 hrd1 ⊢
      have HL := hid hL
      have HR := hid hrd1
      clear hL hr hrd1 hlen hn ih h0 hm
      have hlb : b < w.heap.size := by omega
      go_enter Tryd.func22, Tryd.ntmps22
      go_wp2_with (refine wpList_alloc rfl _ rfl zeroH ?_; intro g2 w2 hg2 hg2' hblk2 hb2; have hcell2 := (hb2.cell (p := ⟨b, off, none⟩) hlb).trans hcell)
      clear hcell hcell2
      refine (Leaf_any w2 (HL.out.below hb2) (HR.out.below (hb2.mono hB)) (Nat.le_trans hB hb2.size) hl1 (by omega)).mono ?_
      rintro e w5 ⟨rfl, hb5⟩
      have hl := shaL_length (0 :: x)
      have hblk5 := hblk2.below hb5 hg2'
      have hb05 := bx_trans hb2 hb5
      obtain ⟨H, hH⟩ : ∃ H, H = shaL (0 :: x) := ⟨_, rfl⟩
      rw [← hH] at hl ⊢
      have HH := hid hH
      clear hH
      go_wp2_with (refine wpList_store_agg rfl _ _ _ rfl _ _ rfl (H.map cb).toArray rfl (aggHS hl) hblk5 (szH hl) (one_cbA H) ?_; intro w6 hput)
      rw [splH hl] at hput
      exact bodyPost_ret (results_agg (cs := H.map cb) rfl rfl (aggHL hl) (blk_cells hput.blk)) rfl ⟨by rw [HH.out], bx_put hb05 hput hg2⟩
    have h2 : 2 ≤ ls.length := by omega
    have hs1 := split_pos h2
    have hs2 := split_lt h2
    have ht := treeR_more h2
    have hu := u64_len m (by omega)
    have hrt := hr.takeL (splitN ls.length)
    have hrd := hr.dropL (splitN ls.length)
    have hlt : (ls.take (splitN ls.length)).length = splitN ls.length := len_take_split
    have hld : (ls.drop (splitN ls.length)).length = ls.length - splitN ls.length := by rw [List.length_drop]
    have hmt : ∀ l ∈ ls.take (splitN ls.length), l.length ≤ 800000000 := fun l hl => hlen l (List.mem_of_mem_take hl)
    have hmd : ∀ l ∈ ls.drop (splitN ls.length), l.length ≤ 800000000 := fun l hl => hlen l (List.mem_of_mem_drop hl)
    rw [ht]
    clear hcell hl1 hrd1 h0
    rw [hm] at *
    have HN : Hid (∀ w' : World, _) := hid fun w' => Split_any w' m (by omega)
    generalize hk : splitN m = k at *
    have HT := hid hlt
    have HD := hid hld
    have HL := hid hL
    have HRT := hid hrt
    have HRD := hid hrd
    have HMT := hid hmt
    have HMD := hid hmd
    have HI := hid ih
    have hl1' := treeR_len (ls.take k)
    have hl2' := treeR_len (ls.drop k)
    generalize ls.take k = l1 at *
    generalize ls.drop k = l2 at *
    clear hlt hld hL hrt hrd hmt hmd ih hr hlen hm hk ht
    have hck : ¬ c = k := by omega
    have hkc : k ≤ c := by omega
    have hkm : k ≤ m := by omega
    go_enter Tryd.func22, Tryd.ntmps22
    go_wp2_with (refine wpList_alloc rfl _ rfl zeroH ?_; intro g2 w2 hg2 hg2' hblk2 hb2)
    refine (HN.out w2).mono ?_
    rintro e w3 ⟨rfl, rfl⟩
    go_wp2_with fail
    refine wp_flow (by kernel_rfl) [0, 0, 3, 7, 0, 0, 48, 127, 255, 511] 9 [false, false, false, false, false, false, false, false, false, false, false, false, false, false, false, false, false, false, false, true, true, true, true, true, true, true, true, true] (by kernel_rfl) (by decide) (by kernel_rfl) [FP.eq (.slice (some ⟨b, off, none⟩) m c), FP.eq (.int .u64 (k : Int)), FP.eq (.slice (some ⟨b, off, none⟩) k c), FP.eq (.agg ((treeR l1).map cb).toArray), FP.eq (.slice (some ⟨b, off, none⟩) m c), FP.eq (.int .u64 (k : Int)), FP.eq (.slice (some ⟨b, off + k, none⟩) (m - k) (c - k)), FP.eq (.agg ((treeR l2).map cb).toArray), FP.eq (.agg ((nodeL (treeR l1) (treeR l2)).map cb).toArray)] ?_ ?_
    · refine allFrom_cons ?_ ?_
      · intro a_ w_ hk_
        have h0 : a_.eval (.tmp 0) = .slice (some ⟨b, off, none⟩) m c := hk_.old 0 (by kernel_rfl)
        have hx_ := hk_.ext
        clear hk_
        refine flow_plain rfl ?_
        exact gives_move rfl ⟨Below.refl _ _, h0⟩
      refine allFrom_cons ?_ ?_
      · intro a_ w_ hk_
        have h3 : a_.eval (.tmp 3) = .int .u64 (k : Int) := hk_.old 3 (by kernel_rfl)
        have hx_ := hk_.ext
        clear hk_
        refine flow_plain rfl ?_
        exact gives_move rfl ⟨Below.refl _ _, h3⟩
      refine allFrom_cons ?_ ?_
      · intro a_ w_ hk_
        have h19 : a_.eval (.tmp 19) = (.slice (some ⟨b, off, none⟩) m c) := hk_.got 0 19 _ (by kernel_rfl) rfl rfl
        have h20 : a_.eval (.tmp 20) = (.int .u64 (k : Int)) := hk_.got 1 20 _ (by kernel_rfl) rfl rfl
        have hx_ := hk_.ext
        clear hk_
        refine flow_plain rfl ?_
        unfold gives
        have hc_ : ∀ v, a_.eval (.const v) = v := fun _ => rfl
        have hn_ : ∀ f, a_.eval (.func f) = .func (.func f) #[] #[] := fun _ => rfl
        generalize a_.eval = ρ_ at *
        go_simp
        exact ⟨Below.refl _ _, rfl⟩
      refine allFrom_cons ?_ ?_
      · intro a_ w_ hk_
        have h21 : a_.eval (.tmp 21) = (.slice (some ⟨b, off, none⟩) k c) := hk_.got 2 21 _ (by kernel_rfl) rfl rfl
        have hx_ := hk_.ext
        clear hk_
        refine flow_plain rfl ?_
        unfold gives
        have hc_ : ∀ v, a_.eval (.const v) = v := fun _ => rfl
        have hn_ : ∀ f, a_.eval (.func f) = .func (.func f) #[] #[] := fun _ => rfl
        generalize a_.eval = ρ_ at *
        go_simp
        exact (HI.out w_ l1 k (some ⟨b, off, none⟩) c B' HT.out (by omega) (HL.out.below (bx_trans hb2 hx_)) (HRT.out.below ((bx_trans hb2 hx_).mono hB)) (Nat.le_trans hB (bx_trans hb2 hx_).size) hkc (by omega) HMT.out).mono fun e w' hh => ⟨_, hh.1, hh.2, rfl⟩
      refine allFrom_cons ?_ ?_
      · intro a_ w_ hk_
        have h0 : a_.eval (.tmp 0) = .slice (some ⟨b, off, none⟩) m c := hk_.old 0 (by kernel_rfl)
        have hx_ := hk_.ext
        clear hk_
        refine flow_plain rfl ?_
        exact gives_move rfl ⟨Below.refl _ _, h0⟩
      refine allFrom_cons ?_ ?_
      · intro a_ w_ hk_
        have h3 : a_.eval (.tmp 3) = .int .u64 (k : Int) := hk_.old 3 (by kernel_rfl)
        have hx_ := hk_.ext
        clear hk_
        refine flow_plain rfl ?_
        exact gives_move rfl ⟨Below.refl _ _, h3⟩
      refine allFrom_cons ?_ ?_
      · intro a_ w_ hk_
        have h23 : a_.eval (.tmp 23) = (.slice (some ⟨b, off, none⟩) m c) := hk_.got 4 23 _ (by kernel_rfl) rfl rfl
        have h24 : a_.eval (.tmp 24) = (.int .u64 (k : Int)) := hk_.got 5 24 _ (by kernel_rfl) rfl rfl
        have hx_ := hk_.ext
        clear hk_
        refine flow_plain rfl ?_
        unfold gives
        have hc_ : ∀ v, a_.eval (.const v) = v := fun _ => rfl
        have hn_ : ∀ f, a_.eval (.func f) = .func (.func f) #[] #[] := fun _ => rfl
        generalize a_.eval = ρ_ at *
        go_simp
        exact ⟨Below.refl _ _, rfl⟩
      refine allFrom_cons ?_ ?_
      · intro a_ w_ hk_
        have h25 : a_.eval (.tmp 25) = (.slice (some ⟨b, off + k, none⟩) (m - k) (c - k)) := hk_.got 6 25 _ (by kernel_rfl) rfl rfl
        have hx_ := hk_.ext
        clear hk_
        refine flow_plain rfl ?_
        unfold gives
        have hc_ : ∀ v, a_.eval (.const v) = v := fun _ => rfl
        have hn_ : ∀ f, a_.eval (.func f) = .func (.func f) #[] #[] := fun _ => rfl
        generalize a_.eval = ρ_ at *
        go_simp
        exact (HI.out w_ l2 (m - k) (some ⟨b, off + k, none⟩) (c - k) B' HD.out (by omega) (HL.out.below (bx_trans hb2 hx_)) (HRD.out.below ((bx_trans hb2 hx_).mono hB)) (Nat.le_trans hB (bx_trans hb2 hx_).size) (by omega) (by omega) HMD.out).mono fun e w' hh => ⟨_, hh.1, hh.2, rfl⟩
      refine allFrom_cons ?_ ?_
      · intro a_ w_ hk_
        have h22 : a_.eval (.tmp 22) = (.agg ((treeR l1).map cb).toArray) := hk_.got 3 22 _ (by kernel_rfl) rfl rfl
        have h26 : a_.eval (.tmp 26) = (.agg ((treeR l2).map cb).toArray) := hk_.got 7 26 _ (by kernel_rfl) rfl rfl
        have hx_ := hk_.ext
        clear hk_
        refine flow_plain rfl ?_
        unfold gives
        have hc_ : ∀ v, a_.eval (.const v) = v := fun _ => rfl
        have hn_ : ∀ f, a_.eval (.func f) = .func (.func f) #[] #[] := fun _ => rfl
        generalize a_.eval = ρ_ at *
        go_simp
        exact (Node_any w_ (HL.out.below (bx_trans hb2 hx_)) hl1' hl2').mono fun e w' hh => ⟨_, hh.1, hh.2, rfl⟩
      exact allFrom_nil
    intro f_ w_ hx_ hf_
    have h19 : f_ 19 = (.slice (some ⟨b, off, none⟩) m c) := hf_ 0 19 _ (by decide) rfl rfl
    have h20 : f_ 20 = (.int .u64 (k : Int)) := hf_ 1 20 _ (by decide) rfl rfl
    have h21 : f_ 21 = (.slice (some ⟨b, off, none⟩) k c) := hf_ 2 21 _ (by decide) rfl rfl
    have h22 : f_ 22 = (.agg ((treeR l1).map cb).toArray) := hf_ 3 22 _ (by decide) rfl rfl
    have h23 : f_ 23 = (.slice (some ⟨b, off, none⟩) m c) := hf_ 4 23 _ (by decide) rfl rfl
    have h24 : f_ 24 = (.int .u64 (k : Int)) := hf_ 5 24 _ (by decide) rfl rfl
    have h25 : f_ 25 = (.slice (some ⟨b, off + k, none⟩) (m - k) (c - k)) := hf_ 6 25 _ (by decide) rfl rfl
    have h26 : f_ 26 = (.agg ((treeR l2).map cb).toArray) := hf_ 7 26 _ (by decide) rfl rfl
    have h27 : f_ 27 = (.agg ((nodeL (treeR l1) (treeR l2)).map cb).toArray) := hf_ 8 27 _ (by decide) rfl rfl
    simp only [mix, List.drop_succ_cons, List.drop_zero, h19, h20, h21, h22, h23, h24, h25, h26, h27]
    clear h19 h20 h21 h22 h23 h24 h25 h26 h27
    clear hf_
    have hblk5 := hblk2.below hx_ hg2'
    have hb05 := bx_trans hb2 hx_
    have hl := nodeL_len (treeR l1) (treeR l2)
    obtain ⟨H, hH⟩ : ∃ H, H = nodeL (treeR l1) (treeR l2) := ⟨_, rfl⟩
    rw [← hH] at hl ⊢
    have HH := hid hH
    clear hH
    go_wp2_with (refine wpList_store_agg rfl _ _ _ rfl _ _ rfl (H.map cb).toArray rfl (aggHS hl) hblk5 (szH hl) (one_cbA H) ?_; intro w6 hput)
    rw [splH hl] at hput
    exact bodyPost_ret (results_agg (cs := H.map cb) rfl rfl (aggHL hl) (blk_cells hput.blk)) rfl ⟨by rw [HH.out], bx_put hb05 hput hg2⟩
end Go.Proofs.YtohkfnmggmlogaaDoor
