
/- SHA-256: Leaf, Node, Text; two hashes compared. -/
import Derived.Test.YtgaefejblmnklaaDoorShaG
import Derived.Stop.BytesEq
namespace Go.Proofs.YtgaefejblmnklaaDoor
open Go.RowKit
set_option linter.unusedVariables false

theorem shaL_length (l : List UInt8) : (shaL l).length = 32 := by simp [shaL, outL]
abbrev tH : Nat := 23
theorem aggHL {h : List UInt8} (hl : h.length = 32) : AggT Tryd.prog 23 (h.map cb).length := by rw [List.length_map, hl]; exact aggH
theorem aggHS {h : List UInt8} (hl : h.length = 32) : AggT Tryd.prog 23 (h.map cb).toArray.size := by rw [List.size_toArray]; exact aggHL hl
theorem splH {l : List UInt8} (h : l.length = 32) : spl (Value.agg (List.replicate 32 (cb 0)).toArray).cells 0 (l.map cb).toArray.toList = (l.map cb).toArray := spl_whole (by
  show (List.replicate 32 (cb 0)).toArray.size = _
  simp [h])
theorem szH {l : List UInt8} (h : l.length = 32) : 0 + (l.map cb).toArray.size ≤ (Value.agg (List.replicate 32 (cb 0)).toArray).cells.size := by
  show 0 + (l.map cb).toArray.size ≤ (List.replicate 32 (cb 0)).toArray.size
  simp [h]
theorem one_cbA (l : List UInt8) : ∀ v ∈ (l.map cb).toArray.toList, v.oneCell' = true := by simpa using one_cb l
theorem size_u8 : ∀ w, (sizeOf 5).run Tryd.prog w = .ok 1 w := fun w => by
  have h : ((Tryd.prog).info? 5).map (·.size) = some 1 := by kernel_rfl
  cases hi : (Tryd.prog).info? 5 with
  | none => rw [hi] at h; cases h
  | some i =>
    have hs : i.size = 1 := by simpa [hi] using h
    simp [sizeOf, typeInfo, hi, hs]
/-- '==' of two hashes. -/
theorem eq_hash (x y : List UInt8) (hx : x.length = 32) (hy : y.length = 32) (w : World) : (Op.equalIn 10000 23 (.agg (x.map cb).toArray) (.agg (y.map cb).toArray)).run Tryd.prog w = .ok (x == y) w :=
  run_equalIn_bytes w 9998 23 5 32 Tryd.underlying23 Tryd.underlying5 size_u8 x y hx hy
set_option maxRecDepth 100000 in
set_option maxHeartbeats 1000000 in
theorem Leaf_any (w : World) (hL : Laid w) {A : Option Addr} {c B' : Nat} {l : List UInt8} (hr : Rd w B' A (l.map cb)) (hB' : B' ≤ w.heap.size) (hlc : l.length ≤ c) (ht : l.length ≤ 800000000) :
    Calls Tryd.prog 17 #[.slice A l.length c] w fun e w' => e = .returned (.agg ((shaL (0 :: l)).map cb).toArray) ∧ Below w.heap.size w w' := by
  have HL := hid hL
  have HR := hid hr
  clear hL hr
  go_enter Tryd.func17, Tryd.ntmps17
  go_wp2_with (refine wpList_alloc rfl _ rfl zeroH ?_; intro g2 w2 hg2 hg2' hblk2 hb2)
  obtain ⟨w3, hw3⟩ : ∃ w3, w3 = w2.alloc (.cells #[.int .u8 0] 5) := ⟨_, rfl⟩
  have hb3 : Below w.heap.size w w3 := by rw [hw3]; exact bx_alloc hb2 _
  have h0 : RdB w3 w3.heap.size (.slice (some ⟨w2.heap.size, 0, none⟩) 1 1) [0] := by
    rw [hw3]
    exact rdB_of_row (heap_new rfl) rfl rfl (Nat.le_refl _)
  have h1 : RdB w3 w3.heap.size (.slice A l.length c) l := ⟨A, c, rfl, hlc, (HR.out.below (hb3.mono hB')).more (by have := hb3.size; omega)⟩
  have h3 := rdBB_two (t := 29) h0 h1 (Nat.le_refl _)
  have hb4 : Below w.heap.size w (w3.alloc (.cells #[.slice (some ⟨w2.heap.size, 0, none⟩) 1 1, .slice A l.length c] 29)) := bx_alloc hb3 _
  have h2b : Below w2.heap.size w2 (w3.alloc (.cells #[.slice (some ⟨w2.heap.size, 0, none⟩) 1 1, .slice A l.length c] 29)) := by rw [hw3]; exact bx_alloc (bx_alloc (Below.refl _ _) _) _
  have hs3 : w3.heap.size = w2.heap.size + 1 := by rw [hw3]; simp
  rw [← hw3]
  rw [hs3] at h3
  refine (Of_any _ (HL.out.below hb4) (ls := [[0], l]) h3 (by simp) (by simp) (by simp; omega)).mono ?_
  rintro e w5 ⟨rfl, hb5⟩
  rw [show ([[0], l] : List (List UInt8)).flatten = 0 :: l from by simp]
  have hblk5 := (hblk2.below h2b hg2').below hb5 (by have := h2b.size; omega)
  have hl := shaL_length (0 :: l)
  have HB := hid (bx_trans hb4 hb5)
  clear hb5 hb4 h2b h3 h1 h0 hblk2
  obtain ⟨H, hH⟩ : ∃ H, H = shaL (0 :: l) := ⟨_, rfl⟩
  rw [← hH] at hl ⊢
  have HH := hid hH
  clear hH
  go_wp2_with (refine wpList_store_agg rfl _ _ _ rfl _ _ rfl (H.map cb).toArray rfl (aggHS hl) hblk5 (szH hl) (one_cbA H) ?_; intro w6 hput)
  rw [splH hl] at hput
  exact bodyPost_ret (results_agg (cs := H.map cb) rfl rfl (aggHL hl) (blk_cells hput.blk)) rfl ⟨by rw [HH.out], bx_put HB.out hput hg2⟩
/-- A new row of three slices. -/
theorem rdBB_three {w : World} {B : Nat} {v v' v'' : Value} {l l' l'' : List UInt8} {t : TypeId} (h : RdB w B v l) (h' : RdB w B v' l') (h'' : RdB w B v'' l'') (hB : B ≤ w.heap.size) : RdBB (w.alloc (.cells #[v, v', v''] t)) (w.alloc (.cells #[v, v', v''] t)).heap.size (some ⟨w.heap.size, 0, none⟩) [l, l', l''] := by
  refine rdBB_of_row (heap_new rfl) rfl fun i u q hu hq => ?_
  have hs : B ≤ (w.alloc (.cells #[v, v', v''] t)).heap.size := by rw [World.size_alloc]; omega
  match i, hu, hq with
  | 0, hu, hq => cases hu; cases hq; exact (h.alloc hB _).more hs
  | 1, hu, hq => cases hu; cases hq; exact (h'.alloc hB _).more hs
  | 2, hu, hq => cases hu; cases hq; exact (h''.alloc hB _).more hs
theorem rdV_three {w : World} {B : Nat} {v v' v'' : Value} {l l' l'' : List UInt8} {t : TypeId} (h : RdB w B v l) (h' : RdB w B v' l') (h'' : RdB w B v'' l'') (hB : B ≤ w.heap.size) :
    Below w.heap.size w (w.alloc (.cells #[v, v', v''] t)) ∧ (FP.rows [l, l', l'']).p (.slice (some ⟨w.heap.size, 0, none⟩) 3 3) (w.alloc (.cells #[v, v', v''] t)) :=
  ⟨bx_alloc (Below.refl _ _) _, _, _, rfl, rdBB_three h h' h'' hB⟩
/-- A hash that lies in a block, as a slice. -/
theorem hash_sl {w : World} {g : Nat} {h : List UInt8} {t : TypeId} (hb : Blk w g t (h.map cb).toArray) (hl : h.length = 32) : RdB w w.heap.size (.slice (some ⟨g, 0, none⟩) 32 32) h :=
  ⟨some ⟨g, 0, none⟩, 32, by rw [hl], by omega, rd_of_row hb rfl⟩
set_option maxRecDepth 100000 in
set_option maxHeartbeats 1000000 in
theorem Node_any (w : World) (hL : Laid w) {a b : List UInt8} (ha : a.length = 32) (hb : b.length = 32) :
    Calls Tryd.prog 23 #[.agg (a.map cb).toArray, .agg (b.map cb).toArray] w fun e w' => e = .returned (.agg ((shaL (1 :: (a ++ b))).map cb).toArray) ∧ Below w.heap.size w w' := by
  have HL := hid hL
  clear hL
  have hA : Blk ((w.alloc (.cells (a.map cb).toArray 23)).alloc (.cells (b.map cb).toArray 23)) w.heap.size tH (a.map cb).toArray := (Blk.new w _ _).alloc _
  have hB : Blk ((w.alloc (.cells (a.map cb).toArray 23)).alloc (.cells (b.map cb).toArray 23)) (w.heap.size + 1) tH (b.map cb).toArray := by
    have := Blk.new (w.alloc (.cells (a.map cb).toArray 23)) tH (b.map cb).toArray
    rwa [World.size_alloc] at this
  have hb0 : Below w.heap.size w ((w.alloc (.cells (a.map cb).toArray 23)).alloc (.cells (b.map cb).toArray 23)) := bx_alloc (bx_alloc (Below.refl _ _) _) _
  have hs0 : ((w.alloc (.cells (a.map cb).toArray 23)).alloc (.cells (b.map cb).toArray 23)).heap.size = w.heap.size + 2 := by simp
  go_enter Tryd.func23, Tryd.ntmps23
  go_wp2_with (refine wpList_alloc rfl _ rfl zeroH ?_; intro g4 w4 hg4 hg4' hblk4 hb4)
  have hA4 := hA.below hb4 (by omega)
  have hB4 := hB.below hb4 (by omega)
  have hb4w := bx_trans hb0 hb4
  have hs4 := hb4.size
  have hw4 : w.heap.size ≤ g4 := by omega
  generalize hga : w.heap.size + 1 = gb at *
  have HGA := hid hga
  clear hA hB hb4 hb0 hga
  simp only [Act.put, Array.setIfInBounds, List.set_toArray, List.set_cons_succ, List.set_cons_zero]
  refine wp_flow (by kernel_rfl) [0, 0, 0, 7, 15, 31] 5 [false, false, false, false, false, true, true, true, true, true] (by kernel_rfl) (by decide) (by kernel_rfl) [FP.bytes [1], FP.bytes a, FP.bytes b, FP.rows [[1], a, b], FP.eq (.agg ((shaL (1 :: (a ++ b))).map cb).toArray)] ?_ ?_
  · refine allFrom_cons ?_ ?_
    · intro a_ w_ hk_
      have hx_ := hk_.ext
      clear hk_
      refine flow_plain rfl ?_
      unfold gives
      have hc_ : ∀ v, a_.eval (.const v) = v := fun _ => rfl
      have hn_ : ∀ f, a_.eval (.func f) = .func (.func f) #[] #[] := fun _ => rfl
      generalize a_.eval = ρ_ at *
      go_simp
      exact ⟨bx_alloc (Below.refl _ _) _, rdB_of_row (heap_new rfl) rfl rfl (by simp)⟩
    refine allFrom_cons ?_ ?_
    · intro a_ w_ hk_
      have h2 : a_.eval (.tmp 2) = .pointer (some ⟨w.heap.size, 0, none⟩) := hk_.old 2 (by kernel_rfl)
      have hx_ := hk_.ext
      clear hk_
      refine flow_plain rfl ?_
      unfold gives
      have hc_ : ∀ v, a_.eval (.const v) = v := fun _ => rfl
      have hn_ : ∀ f, a_.eval (.func f) = .func (.func f) #[] #[] := fun _ => rfl
      generalize a_.eval = ρ_ at *
      go_simp
      exact ⟨Below.refl _ _, hash_sl (hA4.below hx_ hA4.lt) ha⟩
    refine allFrom_cons ?_ ?_
    · intro a_ w_ hk_
      have h3 : a_.eval (.tmp 3) = .pointer (some ⟨gb, 0, none⟩) := hk_.old 3 (by kernel_rfl)
      have hx_ := hk_.ext
      clear hk_
      refine flow_plain rfl ?_
      unfold gives
      have hc_ : ∀ v, a_.eval (.const v) = v := fun _ => rfl
      have hn_ : ∀ f, a_.eval (.func f) = .func (.func f) #[] #[] := fun _ => rfl
      generalize a_.eval = ρ_ at *
      go_simp
      exact ⟨Below.refl _ _, hash_sl (hB4.below hx_ hB4.lt) hb⟩
    refine allFrom_cons ?_ ?_
    · intro a_ w_ hk_
      have h5 : (FP.bytes [1]).p (a_.eval (.tmp 5)) w_ := hk_.got 0 5 _ (by kernel_rfl) rfl rfl
      have h6 : (FP.bytes a).p (a_.eval (.tmp 6)) w_ := hk_.got 1 6 _ (by kernel_rfl) rfl rfl
      have h7 : (FP.bytes b).p (a_.eval (.tmp 7)) w_ := hk_.got 2 7 _ (by kernel_rfl) rfl rfl
      have hx_ := hk_.ext
      clear hk_
      refine flow_plain rfl ?_
      unfold gives
      have hc_ : ∀ v, a_.eval (.const v) = v := fun _ => rfl
      have hn_ : ∀ f, a_.eval (.func f) = .func (.func f) #[] #[] := fun _ => rfl
      obtain ⟨A5, c5, h5, m5, r5⟩ := h5
      obtain ⟨A6, c6, h6, m6, r6⟩ := h6
      obtain ⟨A7, c7, h7, m7, r7⟩ := h7
      generalize a_.eval = ρ_ at *
      go_simp
      exact rdV_three ⟨_, _, rfl, m5, r5⟩ ⟨_, _, by rw [ha], m6, r6⟩ ⟨_, _, by rw [hb], m7, r7⟩ (Nat.le_refl _)
    refine allFrom_cons ?_ ?_
    · intro a_ w_ hk_
      have h8 : (FP.rows [[1], a, b]).p (a_.eval (.tmp 8)) w_ := hk_.got 3 8 _ (by kernel_rfl) rfl rfl
      have hx_ := hk_.ext
      clear hk_
      refine flow_plain rfl ?_
      unfold gives
      have hc_ : ∀ v, a_.eval (.const v) = v := fun _ => rfl
      have hn_ : ∀ f, a_.eval (.func f) = .func (.func f) #[] #[] := fun _ => rfl
      obtain ⟨A8, c8, h8, r8⟩ := h8
      generalize a_.eval = ρ_ at *
      go_simp
      exact (Of_any _ (HL.out.below (bx_trans hb4w hx_)) (ls := [[1], a, b]) r8 (Nat.le_refl _) (by simp) (by simp; omega)).mono fun e w' ⟨h1, h2⟩ => ⟨_, h1, h2, by rw [show ([[1], a, b] : List (List UInt8)).flatten = 1 :: (a ++ b) from by simp]; rfl⟩
    exact allFrom_nil
  intro f_ w_ hx_ hf_
  have h5 : (FP.bytes [1]).p (f_ 5) w_ := hf_ 0 5 _ (by decide) rfl rfl
  have h6 : (FP.bytes a).p (f_ 6) w_ := hf_ 1 6 _ (by decide) rfl rfl
  have h7 : (FP.bytes b).p (f_ 7) w_ := hf_ 2 7 _ (by decide) rfl rfl
  have h8 : (FP.rows [[1], a, b]).p (f_ 8) w_ := hf_ 3 8 _ (by decide) rfl rfl
  have h9 : f_ 9 = (.agg ((shaL (1 :: (a ++ b))).map cb).toArray) := hf_ 4 9 _ (by decide) rfl rfl
  simp only [mix, List.drop_succ_cons, List.drop_zero, h9]
  clear h9
  clear hf_
  have hblk5 := hblk4.below hx_ hg4'
  have hl := shaL_length (1 :: (a ++ b))
  have HB := hid (bx_trans hb4w hx_)
  obtain ⟨H, hH⟩ : ∃ H, H = shaL (1 :: (a ++ b)) := ⟨_, rfl⟩
  rw [← hH] at hl ⊢
  have HH := hid hH
  clear hH hx_ hb4w
  go_wp2_with (refine wpList_store_agg rfl _ _ _ rfl _ _ rfl (H.map cb).toArray rfl (aggHS hl) hblk5 (szH hl) (one_cbA H) ?_; intro w6 hput)
  rw [splH hl] at hput
  exact bodyPost_ret (results_agg (cs := H.map cb) rfl rfl (aggHL hl) (blk_cells hput.blk)) rfl ⟨by rw [HH.out], bx_put HB.out hput hw4⟩
end Go.Proofs.YtgaefejblmnklaaDoor
