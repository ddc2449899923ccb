
/- The document's hash: Raw, Leaf, Node. -/
import Derived.Test.YtohkfnmggmlogaaDoorShaS
namespace Go.Proofs.YtohkfnmggmlogaaDoor
open Go.RowKit
set_option linter.unusedVariables false
set_option maxRecDepth 10000 in
set_option maxHeartbeats 1000000 in
theorem rRaw_any (w : World) {h : List UInt8} (hl : h.length = 32) :
    Calls Tryd.prog 40 #[.agg (h.map cb).toArray] w fun e w' => e = .returned (.string ⟨h.toArray⟩) ∧ Below w.heap.size w w' := by
  have hA : Blk (w.alloc (.cells (h.map cb).toArray tH)) w.heap.size tH (h.map cb).toArray := Blk.new w _ _
  have hb0 : Below w.heap.size w (w.alloc (.cells (h.map cb).toArray tH)) := bx_alloc (Below.refl _ _) _
  go_enter Tryd.func40, Tryd.ntmps40
  go_wp2
  generalize w.alloc (.cells (h.map cb).toArray tH) = w1 at *
  obtain ⟨g, hg⟩ : ∃ g, g = w.heap.size := ⟨_, rfl⟩
  rw [← hg] at hA ⊢
  clear hg
  go_loopw [3, 4] (fun v3 v4 wr => ∃ i : Nat, i ≤ 32 ∧ v3 = .string ⟨(h.take i).toArray⟩ ∧ v4 = .int .i64 (i : Int) ∧ Blk wr g tH (h.map cb).toArray ∧ Below w.heap.size w wr) (fun _ v4 _ => 32 - (intOf v4).toNat)
  case atStart => exact ⟨0, by omega, by rw [List.take_zero], rfl, hA, hb0⟩
  case round =>
    obtain ⟨i, hi, rfl, rfl, hbk, hbr⟩ := hrel
    rename World => wo
    clear hA hb0
    by_cases hlt : i < 32
    · have hlt2 : i < h.length := by omega
      have htk : h.take (i + 1) = h.take i ++ [h[i]] := List.take_succ_eq_append_getElem hlt2
      have hc : wo.cell? ⟨g, i, none⟩ = some (.int .u8 (h[i].toNat : Int)) := by
        rw [hbk.cell]
        simp [cb, hlt2]
      generalize h[i] = c at *
      have hst := strOne wo c
      have hcat := strCat (h.take i) [c]
      rw [← htk] at hcat
      have hsz := szs (h.take i)
      rw [List.length_take, Nat.min_eq_left (by omega)] at hsz
      have hnov : ¬ 9223372036854775807 < i + 1 := by omega
      have HB := hid (bx_alloc hbr (.cells #[.int .u8 (c.toNat : Int)] 5))
      have HK := hid (hbk.alloc (.cells #[.int .u8 (c.toNat : Int)] 5))
      clear htk hbk hbr
      go_wp2
      go_roundw
      case rel => exact ⟨i + 1, by omega, rfl, by go_num, HK.out, HB.out⟩
      case measure => simp [intOf]; omega
    · have hi3 : i = 32 := by omega
      subst hi3
      rw [List.take_of_length_le (by omega)]
      go_wp2
      go_ret
      exact ⟨rfl, hbr⟩
set_option maxRecDepth 10000 in
set_option maxHeartbeats 1000000 in
theorem rLeaf_any (w : World) (b : List UInt8) (hb : b.length ≤ 90000) :
    Calls Tryd.prog 31 #[.string ⟨b.toArray⟩] w fun e w' => e = .returned (.agg ((shaL (0 :: b)).map cb).toArray) ∧ Below w.heap.size w w' := by
  have hcat := strCat [0] b
  have hz := szs b
  have hnov : ¬ 9223372036854775807 < 1 + b.length := by omega
  have hof := fun w' => rOf_any w' (0 :: b) (by simp; omega)
  have HOF := hid hof
  clear hof
  go_enter Tryd.func31, Tryd.ntmps31
  go_wp2_with (refine wpList_alloc rfl _ rfl zeroH ?_; intro g2 w2 hg2 hg2' hblk2 hb2)
  refine (HOF.out w2).mono ?_
  rintro e w5 ⟨rfl, hb5⟩
  have hl := shaL_length (0 :: b)
  have hblk5 := hblk2.below hb5 hg2'
  have hb05 := bx_trans hb2 hb5
  obtain ⟨H, hH⟩ : ∃ H, H = shaL (0 :: b) := ⟨_, rfl⟩
  rw [← hH] at hl ⊢
  have HH := hid hH
  clear hH
  go_wp2_with (refine wpList_store_agg rfl _ _ _ rfl _ _ rfl (H.map cb).toArray rfl (aggHS hl) hblk5 (szH hl) (one_cbA H) ?_; intro w6 hput)
  rw [splH hl] at hput
  exact bodyPost_ret (results_agg (cs := H.map cb) rfl rfl (aggHL hl) (blk_cells hput.blk)) rfl ⟨by rw [HH.out], bx_put hb05 hput hg2⟩
set_option maxRecDepth 10000 in
set_option maxHeartbeats 1000000 in
theorem rNode_any (w : World) {a b : List UInt8} (ha : a.length = 32) (hb : b.length = 32) :
    Calls Tryd.prog 30 #[.agg (a.map cb).toArray, .agg (b.map cb).toArray] w fun e w' => e = .returned (.agg ((shaL (1 :: (a ++ b))).map cb).toArray) ∧ Below w.heap.size w w' := by
  have hA : Blk ((w.alloc (.cells (a.map cb).toArray tH)).alloc (.cells (b.map cb).toArray tH)) w.heap.size tH (a.map cb).toArray := (Blk.new w _ _).alloc _
  have hB : Blk ((w.alloc (.cells (a.map cb).toArray tH)).alloc (.cells (b.map cb).toArray tH)) (w.heap.size + 1) tH (b.map cb).toArray := by
    have := Blk.new (w.alloc (.cells (a.map cb).toArray tH)) tH (b.map cb).toArray
    rwa [World.size_alloc] at this
  have hb0 : Below w.heap.size w ((w.alloc (.cells (a.map cb).toArray tH)).alloc (.cells (b.map cb).toArray tH)) := bx_alloc (bx_alloc (Below.refl _ _) _) _
  have hs0 : ((w.alloc (.cells (a.map cb).toArray tH)).alloc (.cells (b.map cb).toArray tH)).heap.size = w.heap.size + 2 := by simp
  have HSA1 := hid (⟨strCat [1] a, strCat (1 :: a) b, szs a, szs b, szs (1 :: a), by omega, by simp; omega⟩ : _ ∧ _ ∧ _ ∧ _ ∧ _ ∧ ¬ 9223372036854775807 < 1 + a.length ∧ ¬ 9223372036854775807 < (1 :: a).length + b.length)
  have haa := aggHL ha
  have hab := aggHL hb
  go_enter Tryd.func30, Tryd.ntmps30
  go_wp2_with (refine wpList_alloc rfl _ rfl zeroH ?_; intro g4 w4 hg4 hg4' hblk4 hb4)
  have hA4 := hA.below hb4 hA.lt
  have hB4 := hB.below hb4 hB.lt
  have hb4w := bx_trans hb0 hb4
  have hw4 : w.heap.size ≤ g4 := Nat.le_trans hb0.size hg4
  generalize hga : w.heap.size + 1 = gb at *
  have HGA := hid hga
  clear hA hB hb4 hb0 hga
  simp only [Act.put, Array.setIfInBounds, List.set_toArray, List.set_cons_succ, List.set_cons_zero]
  refine wp_flow (by kernel_rfl) [0, 1, 3, 0, 11, 31, 63, 127] 7 [false, false, false, false, false, true, true, true, true, true, true, true] (by kernel_rfl) (by decide) (by kernel_rfl) [FP.eq (.agg (a.map cb).toArray), FP.eq (.string ⟨a.toArray⟩), FP.eq (.string ⟨(1 :: a).toArray⟩), FP.eq (.agg (b.map cb).toArray), FP.eq (.string ⟨b.toArray⟩), FP.eq (.string ⟨(1 :: (a ++ b)).toArray⟩), FP.eq (.agg ((shaL (1 :: (a ++ b))).map cb).toArray)] ?_ ?_
  · refine allFrom_cons ?_ ?_
    · intro a_ w_ hk_
      have h2 : a_.eval (.tmp 2) = .pointer (some ⟨w.heap.size, 0, none⟩) := hk_.old 2 (by kernel_rfl)
      have hx_ := hk_.ext
      clear hk_
      refine flow_plain rfl ?_
      exact gives_load_agg _ _ rfl _ _ h2 (a.map cb) haa (blk_cells (hA4.below hx_ hA4.lt)) ⟨Below.refl _ _, rfl⟩
    refine allFrom_cons ?_ ?_
    · intro a_ w_ hk_
      have h5 : a_.eval (.tmp 5) = (.agg (a.map cb).toArray) := hk_.got 0 5 _ (by kernel_rfl) rfl rfl
      have hx_ := hk_.ext
      clear hk_
      refine flow_plain rfl ?_
      unfold gives
      have hc_ : ∀ v, a_.eval (.const v) = v := fun _ => rfl
      have hn_ : ∀ f, a_.eval (.func f) = .func (.func f) #[] #[] := fun _ => rfl
      generalize a_.eval = ρ_ at *
      go_simp
      exact (rRaw_any w_ ha).mono fun e w' hh => ⟨_, hh.1, hh.2, rfl⟩
    refine allFrom_cons ?_ ?_
    · intro a_ w_ hk_
      have h6 : a_.eval (.tmp 6) = (.string ⟨a.toArray⟩) := hk_.got 1 6 _ (by kernel_rfl) rfl rfl
      have hx_ := hk_.ext
      clear hk_
      refine flow_plain rfl ?_
      unfold gives
      have hc_ : ∀ v, a_.eval (.const v) = v := fun _ => rfl
      have hn_ : ∀ f, a_.eval (.func f) = .func (.func f) #[] #[] := fun _ => rfl
      have hsa := HSA1.out.1
      have hz1 := HSA1.out.2.2.1
      have hno := HSA1.out.2.2.2.2.2.1
      generalize a_.eval = ρ_ at *
      go_simp
      exact ⟨Below.refl _ _, rfl⟩
    refine allFrom_cons ?_ ?_
    · intro a_ w_ hk_
      have h3 : a_.eval (.tmp 3) = .pointer (some ⟨gb, 0, none⟩) := hk_.old 3 (by kernel_rfl)
      have hx_ := hk_.ext
      clear hk_
      refine flow_plain rfl ?_
      exact gives_load_agg _ _ rfl _ _ h3 (b.map cb) hab (blk_cells (hB4.below hx_ hB4.lt)) ⟨Below.refl _ _, rfl⟩
    refine allFrom_cons ?_ ?_
    · intro a_ w_ hk_
      have h8 : a_.eval (.tmp 8) = (.agg (b.map cb).toArray) := hk_.got 3 8 _ (by kernel_rfl) rfl rfl
      have hx_ := hk_.ext
      clear hk_
      refine flow_plain rfl ?_
      unfold gives
      have hc_ : ∀ v, a_.eval (.const v) = v := fun _ => rfl
      have hn_ : ∀ f, a_.eval (.func f) = .func (.func f) #[] #[] := fun _ => rfl
      generalize a_.eval = ρ_ at *
      go_simp
      exact (rRaw_any w_ hb).mono fun e w' hh => ⟨_, hh.1, hh.2, rfl⟩
    refine allFrom_cons ?_ ?_
    · intro a_ w_ hk_
      have h7 : a_.eval (.tmp 7) = (.string ⟨(1 :: a).toArray⟩) := hk_.got 2 7 _ (by kernel_rfl) rfl rfl
      have h9 : a_.eval (.tmp 9) = (.string ⟨b.toArray⟩) := hk_.got 4 9 _ (by kernel_rfl) rfl rfl
      have hx_ := hk_.ext
      clear hk_
      refine flow_plain rfl ?_
      unfold gives
      have hc_ : ∀ v, a_.eval (.const v) = v := fun _ => rfl
      have hn_ : ∀ f, a_.eval (.func f) = .func (.func f) #[] #[] := fun _ => rfl
      have hsa := HSA1.out.2.1
      have hz1 := HSA1.out.2.2.2.1
      have hz2 := HSA1.out.2.2.2.2.1
      have hno := HSA1.out.2.2.2.2.2.2
      generalize a_.eval = ρ_ at *
      go_simp
      exact ⟨Below.refl _ _, rfl⟩
    refine allFrom_cons ?_ ?_
    · intro a_ w_ hk_
      have h10 : a_.eval (.tmp 10) = (.string ⟨(1 :: (a ++ b)).toArray⟩) := hk_.got 5 10 _ (by kernel_rfl) rfl rfl
      have hx_ := hk_.ext
      clear hk_
      refine flow_plain rfl ?_
      unfold gives
      have hc_ : ∀ v, a_.eval (.const v) = v := fun _ => rfl
      have hn_ : ∀ f, a_.eval (.func f) = .func (.func f) #[] #[] := fun _ => rfl
      generalize a_.eval = ρ_ at *
      go_simp
      exact (rOf_any w_ (1 :: (a ++ b)) (by simp; omega)).mono fun e w' hh => ⟨_, hh.1, hh.2, rfl⟩
    exact allFrom_nil
  intro f_ w_ hx_ hf_
  have h5 : f_ 5 = (.agg (a.map cb).toArray) := hf_ 0 5 _ (by decide) rfl rfl
  have h6 : f_ 6 = (.string ⟨a.toArray⟩) := hf_ 1 6 _ (by decide) rfl rfl
  have h7 : f_ 7 = (.string ⟨(1 :: a).toArray⟩) := hf_ 2 7 _ (by decide) rfl rfl
  have h8 : f_ 8 = (.agg (b.map cb).toArray) := hf_ 3 8 _ (by decide) rfl rfl
  have h9 : f_ 9 = (.string ⟨b.toArray⟩) := hf_ 4 9 _ (by decide) rfl rfl
  have h10 : f_ 10 = (.string ⟨(1 :: (a ++ b)).toArray⟩) := hf_ 5 10 _ (by decide) rfl rfl
  have h11 : f_ 11 = (.agg ((shaL (1 :: (a ++ b))).map cb).toArray) := hf_ 6 11 _ (by decide) rfl rfl
  simp only [mix, List.drop_succ_cons, List.drop_zero, h5, h6, h7, h8, h9, h10, h11]
  clear h5 h6 h7 h8 h9 h10 h11
  clear hf_
  have hblk5 := hblk4.below hx_ hg4'
  have hl := shaL_length (1 :: (a ++ b))
  have HB := hid (bx_trans hb4w hx_)
  obtain ⟨H, hH⟩ : ∃ H, H = shaL (1 :: (a ++ b)) := ⟨_, rfl⟩
  rw [← hH] at hl
  rw [← hH]
  have HH := hid hH
  clear hH hx_ hb4w
  go_wp2_with (refine wpList_store_agg rfl _ _ _ rfl _ _ rfl (H.map cb).toArray rfl (aggHS hl) hblk5 (szH hl) (one_cbA H) ?_; intro w6 hput)
  rw [splH hl] at hput
  exact bodyPost_ret (results_agg (cs := H.map cb) rfl rfl (aggHL hl) (blk_cells hput.blk)) rfl ⟨by rw [HH.out], bx_put HB.out hput hw4⟩
end Go.Proofs.YtohkfnmggmlogaaDoor
