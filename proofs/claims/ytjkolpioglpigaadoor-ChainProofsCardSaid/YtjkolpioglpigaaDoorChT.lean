
/- The document's answer for chains: Made and Verify, of any. -/
import Derived.Test.YtjkolpioglpigaaDoorChS
import Derived.Test.YtjkolpioglpigaaDoorChM
namespace Go.Proofs.YtjkolpioglpigaaDoor
open Go.RowKit
set_option linter.unusedVariables false
theorem mfoldl_len : ∀ (zs : List (Bool × List UInt8)) (s : List UInt8 × List UInt8), s.1.length = 32 → s.2.length = 32 → (zs.foldl mstep s).1.length = 32 ∧ (zs.foldl mstep s).2.length = 32
  | [], _, h1, h2 => ⟨h1, h2⟩
  | z :: zs, s, h1, h2 => by
    rw [List.foldl_cons]
    apply mfoldl_len
    · unfold mstep
      split
      · exact h1
      · exact nodeL_len _ _
    · unfold mstep
      split
      · exact nodeL_len _ _
      · exact nodeL_len _ _
theorem madeL_len {m n : Nat} {old : List UInt8} {path : List (List UInt8)} (h1 : 1 ≤ m) (h2 : m ≤ n) (ho : old.length = 32) (hpa : ∀ x ∈ path, x.length = 32) (hl : path.length = longN m n) : (madeL m n old path).1.length = 32 ∧ (madeL m n old path).2.length = 32 := by
  unfold madeL
  split
  · exact mfoldl_len _ _ ho ho
  · rename_i hw
    have hlo := longN_eq h1 h2
    rw [if_neg hw] at hlo
    have h0 : 0 < path.length := by omega
    have hg : (path.getD 0 []).length = 32 := by
      rw [List.getD_eq_getElem?_getD, List.getElem?_eq_getElem h0]
      exact hpa _ (List.getElem_mem _)
    exact mfoldl_len _ _ hg hg
theorem rMade_any (w : World) (m n p c : Nat) (A : Option Addr) (old : List UInt8) (path : List (List UInt8)) (hpl : path.length = p) (h1 : 1 ≤ m) (h2 : m ≤ n) (hn : n < 18446744073709551616) (ho : old.length = 32) (hpa : ∀ x ∈ path, x.length = 32) (hr : Rd w w.heap.size A (path.flatten.map cb)) (hc : p ≤ c) (hp : p ≤ 1000000) :
    ∃ x y : List UInt8, x.length = 32 ∧ y.length = 32 ∧ (p = longN m n → madeL m n old path = (x, y)) ∧
    Calls Tryd.prog 18 #[.int .u64 (m : Int), .int .u64 (n : Int), .agg (old.map cb).toArray, .slice A p c] w fun e w' => e = .returned (.tuple #[.agg (x.map cb).toArray, .agg (y.map cb).toArray, .bool (decide (p = longN m n))]) ∧ Below w.heap.size w w' := by
  by_cases hlong : p = longN m n
  · obtain ⟨hx, hy⟩ := madeL_len h1 h2 ho hpa (by rw [hpl]; exact hlong)
    refine ⟨_, _, hx, hy, fun _ => rfl, ?_⟩
    rw [decide_eq_true hlong]
    cases hwh : wholeN m n with
    | true => exact rMade_W w m n p c A old path hpl h1 h2 hn ho hpa hr hc hlong hwh
    | false => exact rMade_N w m n p c A old path hpl h1 h2 hn ho hpa hr hc hlong hwh
  · refine ⟨List.replicate 32 0, List.replicate 32 0, List.length_replicate, List.length_replicate, fun h => (hlong h).elim, ?_⟩
    rw [decide_eq_false hlong]
    exact rMade_no w m n p c A old h1 h2 hn ho hlong hp
set_option maxRecDepth 10000 in
set_option maxHeartbeats 1000000 in
theorem rVerify_out (w : World) (m n p c : Nat) (A : Option Addr) (old now : List UInt8) (hm : m < 18446744073709551616) (hn : n < 18446744073709551616) (h : m < 1 ∨ n < m) :
    Calls Tryd.prog 20 #[.agg (kcell m old).toArray, .agg (kcell n now).toArray, .slice A p c] w fun e w' => e = .returned (.int .i64 15) ∧ Below w.heap.size w w' := by
  have hA : Blk ((w.alloc (.cells (kcell m old).toArray tKy)).alloc (.cells (kcell n now).toArray tKy)) w.heap.size tKy (kcell m old).toArray := (Blk.new w _ _).alloc _
  have hB : Blk ((w.alloc (.cells (kcell m old).toArray tKy)).alloc (.cells (kcell n now).toArray tKy)) (w.heap.size + 1) tKy (kcell n now).toArray := by
    have := Blk.new (w.alloc (.cells (kcell m old).toArray tKy)) tKy (kcell n now).toArray
    rwa [World.size_alloc] at this
  have hb0 : Below w.heap.size w ((w.alloc (.cells (kcell m old).toArray tKy)).alloc (.cells (kcell n now).toArray tKy)) := bx_alloc (bx_alloc (Below.refl _ _) _) _
  have hca := kcell_size hA
  have hcb := kcell_size hB
  by_cases hm1 : m < 1
  · have hd : ((m : Int) < 1) := by omega
    go_enter Tryd.func20, Tryd.ntmps20
    go_wp2
    go_ret
    exact ⟨rfl, hb0⟩
  · have hd : ¬ ((m : Int) < 1) := by omega
    have hd2 : n < m := by omega
    go_enter Tryd.func20, Tryd.ntmps20
    go_wp2
    go_ret
    exact ⟨rfl, hb0⟩
set_option maxRecDepth 10000 in
set_option maxHeartbeats 1000000 in
theorem rVerify_go (w : World) (m n p c : Nat) (A : Option Addr) (old now : List UInt8) (path : List (List UInt8)) (hpl : path.length = p) (h1 : 1 ≤ m) (h2 : m ≤ n) (hn : n < 18446744073709551616) (ho : old.length = 32) (hw : now.length = 32) (hpa : ∀ x ∈ path, x.length = 32) (hr : Rd w w.heap.size A (path.flatten.map cb)) (hc : p ≤ c) (hp : p ≤ 1000000) :
    Calls Tryd.prog 20 #[.agg (kcell m old).toArray, .agg (kcell n now).toArray, .slice A p c] w fun e w' => e = .returned (.int .i64 (verL m n old now path)) ∧ Below w.heap.size w w' := by
  have hA : Blk ((w.alloc (.cells (kcell m old).toArray tKy)).alloc (.cells (kcell n now).toArray tKy)) w.heap.size tKy (kcell m old).toArray := (Blk.new w _ _).alloc _
  have hB : Blk ((w.alloc (.cells (kcell m old).toArray tKy)).alloc (.cells (kcell n now).toArray tKy)) (w.heap.size + 1) tKy (kcell n now).toArray := by
    have := Blk.new (w.alloc (.cells (kcell m old).toArray tKy)) tKy (kcell n now).toArray
    rwa [World.size_alloc] at this
  have hb0 : Below w.heap.size w ((w.alloc (.cells (kcell m old).toArray tKy)).alloc (.cells (kcell n now).toArray tKy)) := bx_alloc (bx_alloc (Below.refl _ _) _) _
  have hca := kcell_size hA
  have hcb := kcell_size hB
  have hra := kcell_root hA
  have hrb := kcell_root hB
  have hao := aggHL ho
  have han := aggHL hw
  have hd1 : ¬ ((m : Int) < 1) := by omega
  have hd2 : ¬ n < m := by omega
  obtain ⟨V, hV⟩ : ∃ V, V = verL m n old now path := ⟨_, rfl⟩
  rw [← hV]
  have hv : V = if p = longN m n ∧ madeL m n old path = (old, now) then 0 else 20 := by
    rw [hV, ← hpl]
    unfold verL
    rw [if_neg (by omega)]
  clear hV
  have hrr := ((hr.below hb0).more hb0.size)
  obtain ⟨x, y, hx, hy, hmd, hcall⟩ := rMade_any _ m n p c A old path hpl h1 h2 hn ho hpa hrr hc hp
  have HV : Hid (V = if p = longN m n ∧ (x = old ∧ y = now) then 0 else 20) := hid (by
    rw [hv]
    have e : (p = longN m n ∧ madeL m n old path = (old, now)) = (p = longN m n ∧ (x = old ∧ y = now)) := propext ⟨fun h => ⟨h.1, by have h2 := h.2; rw [hmd h.1, Prod.mk.injEq] at h2; exact h2⟩, fun h => ⟨h.1, by rw [hmd h.1, h.2.1, h.2.2]⟩⟩
    simp only [e])
  have HCALL := hid hcall
  have HB0 := hid hb0
  clear hcall hv hmd hrr hb0 hr hpa
  go_enter Tryd.func20, Tryd.ntmps20
  generalize hC4 : Code.region 4 _ _ = C4
  have HC4 := hid hC4
  clear hC4
  go_wp2_with (first
    | ((with_reducible refine wpAtC ?_); refine wpList_loadG rfl _ _ rfl _ _ rfl (old.map cb) hao hra ?_; simp only [Act.put, List.setIfInBounds_toArray, List.set_cons_succ, List.set_cons_zero]))
  generalize (w.alloc (.cells (kcell m old).toArray tKy)).alloc (.cells (kcell n now).toArray tKy) = w1 at *
  obtain ⟨g3, hg3⟩ : ∃ g3, g3 = w.heap.size := ⟨_, rfl⟩
  obtain ⟨g4, hg4⟩ : ∃ g4, g4 = w.heap.size + 1 := ⟨_, rfl⟩
  rw [← hg4] at hB ⊢
  rw [← hg3] at hA ⊢
  have HG3 := hid hg3
  clear hg4 hg3
  refine (HCALL.out).mono ?_
  rintro e w2 ⟨rfl, hb2⟩
  have HB2 := hid (bx_trans HB0.out hb2)
  have hA2 := hA.below hb2 hA.lt
  have hB2 := hB.below hb2 hB.lt
  clear hra hrb hca hcb hb2 hA hB HCALL HB0
  have hax := aggHS hx
  have hay := aggHS hy
  have hxl := aggHL hx
  have hyl := aggHL hy
  obtain ⟨b, hb⟩ : ∃ b, b = decide (p = longN m n) := ⟨_, rfl⟩
  rw [← hb]
  have HV2 : Hid (V = if b = true ∧ (x = old ∧ y = now) then 0 else 20) := hid (by rw [HV.out, hb]; simp)
  clear HV hb
  have hs2 := HB2.out.size
  go_wp2_with (first
    | ((with_reducible refine wpAtC ?_); refine wpList_alloc (w := w2) rfl _ rfl zeroH ?_; intro g7 w7 hg7 hg7' hz7 hb7; have hA7 := hA2.below hb7 hA2.lt; have hB7 := hB2.below hb7 hB2.lt; simp only [Act.put, List.setIfInBounds_toArray, List.set_cons_succ, List.set_cons_zero])
    | ((with_reducible refine wpAtC ?_); refine wpList_alloc (w := w7) rfl _ rfl zeroH ?_; intro g8 w8 hg8 hg8' hz8 hb8; have hA8 := hA7.below hb8 hA7.lt; have hB8 := hB7.below hb8 hB7.lt; have hz78 := hz7.below hb8 hg7'; simp only [Act.put, List.setIfInBounds_toArray, List.set_cons_succ, List.set_cons_zero])
    | ((with_reducible refine wpAtC ?_); refine wpList_store_agg rfl _ _ _ rfl _ _ rfl (x.map cb).toArray rfl hax hz78 (szH hx) (one_cbA _) ?_; intro w9 hp9; simp only [Act.put]; rw [splH hx] at hp9; have hz89 := hp9.other hz8 (show g8 ≠ g7 by omega); have hA9 := hp9.other hA8 (by have := hA2.lt; omega); have hB9 := hp9.other hB8 (by have := hB2.lt; omega))
    | ((with_reducible refine wpAtC ?_); refine wpList_store_agg rfl _ _ _ rfl _ _ rfl (y.map cb).toArray rfl hay hz89 (szH hy) (one_cbA _) ?_; intro w10 hp10; simp only [Act.put]; rw [splH hy] at hp10; have hX10 := hp10.other hp9.blk (show g7 ≠ g8 by omega); have hA10 := hp10.other hA9 (by have := hA2.lt; omega); have hB10 := hp10.other hB9 (by have := hB2.lt; omega)))
  have hra := kcell_root hA10
  have hrb := kcell_root hB10
  have hrx := blk_cells hX10
  have hry := blk_cells hp10.blk
  have HB10 := hid (bx_put (bx_put (bx_trans (bx_trans HB2.out hb7) hb8) hp9 (Nat.le_trans hs2 hg7)) hp10 (by omega))
  have hex := eq_hash x old hx ho
  have hey := eq_hash y now hy hw
  clear hz7 hb7 hA7 hB7 hz8 hb8 hA8 hB8 hz78 hp9 hz89 hA9 hB9 hp10 hX10 hA10 hB10 hA2 hB2 hax hay HB2
  obtain rfl := HC4.out
  clear HC4
  cases b with
  | false =>
    have HE := hid (HV2.out.trans (if_neg (fun h => Bool.noConfusion h.1)))
    clear HV2
    go_wp2
    go_ret
    exact ⟨by rw [HE.out]; rfl, HB10.out⟩
  | true =>
    by_cases hxo : x = old
    · rw [show (x == old) = true by simpa using hxo] at hex
      by_cases hyn : y = now
      · rw [show (y == now) = true by simpa using hyn] at hey
        have HE := hid (HV2.out.trans (if_pos ⟨rfl, hxo, hyn⟩))
        clear HV2 hxo hyn
        go_wp2_with (first | ((with_reducible refine wpAtC ?_); refine wpList_loadG rfl _ _ rfl _ _ rfl (x.map cb) hxl hrx ?_; simp only [Act.put, List.setIfInBounds_toArray, List.set_cons_succ, List.set_cons_zero]) | ((with_reducible refine wpAtC ?_); refine wpList_loadG rfl _ _ rfl _ _ rfl (old.map cb) hao hra ?_; simp only [Act.put, List.setIfInBounds_toArray, List.set_cons_succ, List.set_cons_zero]) | ((with_reducible refine wpAtC ?_); refine wpList_loadG rfl _ _ rfl _ _ rfl (y.map cb) hyl hry ?_; simp only [Act.put, List.setIfInBounds_toArray, List.set_cons_succ, List.set_cons_zero]) | ((with_reducible refine wpAtC ?_); refine wpList_loadG rfl _ _ rfl _ _ rfl (now.map cb) han hrb ?_; simp only [Act.put, List.setIfInBounds_toArray, List.set_cons_succ, List.set_cons_zero]))
        go_ret
        exact ⟨by rw [HE.out]; rfl, HB10.out⟩
      · rw [show (y == now) = false by simpa using hyn] at hey
        have HE := hid (HV2.out.trans (if_neg (fun h => hyn h.2.2)))
        clear HV2 hxo hyn
        go_wp2_with (first | ((with_reducible refine wpAtC ?_); refine wpList_loadG rfl _ _ rfl _ _ rfl (x.map cb) hxl hrx ?_; simp only [Act.put, List.setIfInBounds_toArray, List.set_cons_succ, List.set_cons_zero]) | ((with_reducible refine wpAtC ?_); refine wpList_loadG rfl _ _ rfl _ _ rfl (old.map cb) hao hra ?_; simp only [Act.put, List.setIfInBounds_toArray, List.set_cons_succ, List.set_cons_zero]) | ((with_reducible refine wpAtC ?_); refine wpList_loadG rfl _ _ rfl _ _ rfl (y.map cb) hyl hry ?_; simp only [Act.put, List.setIfInBounds_toArray, List.set_cons_succ, List.set_cons_zero]) | ((with_reducible refine wpAtC ?_); refine wpList_loadG rfl _ _ rfl _ _ rfl (now.map cb) han hrb ?_; simp only [Act.put, List.setIfInBounds_toArray, List.set_cons_succ, List.set_cons_zero]))
        go_ret
        exact ⟨by rw [HE.out]; rfl, HB10.out⟩
    · rw [show (x == old) = false by simpa using hxo] at hex
      have HE := hid (HV2.out.trans (if_neg (fun h => hxo h.2.1)))
      clear HV2 hxo
      go_wp2_with (first | ((with_reducible refine wpAtC ?_); refine wpList_loadG rfl _ _ rfl _ _ rfl (x.map cb) hxl hrx ?_; simp only [Act.put, List.setIfInBounds_toArray, List.set_cons_succ, List.set_cons_zero]) | ((with_reducible refine wpAtC ?_); refine wpList_loadG rfl _ _ rfl _ _ rfl (old.map cb) hao hra ?_; simp only [Act.put, List.setIfInBounds_toArray, List.set_cons_succ, List.set_cons_zero]) | ((with_reducible refine wpAtC ?_); refine wpList_loadG rfl _ _ rfl _ _ rfl (y.map cb) hyl hry ?_; simp only [Act.put, List.setIfInBounds_toArray, List.set_cons_succ, List.set_cons_zero]) | ((with_reducible refine wpAtC ?_); refine wpList_loadG rfl _ _ rfl _ _ rfl (now.map cb) han hrb ?_; simp only [Act.put, List.setIfInBounds_toArray, List.set_cons_succ, List.set_cons_zero]))
      go_ret
      exact ⟨by rw [HE.out]; rfl, HB10.out⟩
theorem rVerify_any (w : World) (m n p c : Nat) (A : Option Addr) (old now : List UInt8) (path : List (List UInt8)) (hpl : path.length = p) (hm : m < 18446744073709551616) (hn : n < 18446744073709551616) (ho : old.length = 32) (hw : now.length = 32) (hpa : ∀ x ∈ path, x.length = 32) (hr : Rd w w.heap.size A (path.flatten.map cb)) (hc : p ≤ c) (hp : p ≤ 1000000) :
    Calls Tryd.prog 20 #[.agg (kcell m old).toArray, .agg (kcell n now).toArray, .slice A p c] w fun e w' => e = .returned (.int .i64 (verL m n old now path)) ∧ Below w.heap.size w w' := by
  by_cases h : m < 1 ∨ n < m
  · rw [verL_out h]
    exact rVerify_out w m n p c A old now hm hn h
  · exact rVerify_go w m n p c A old now path hpl (by omega) (by omega) hn ho hw hpa hr hc hp
end Go.Proofs.YtjkolpioglpigaaDoor
