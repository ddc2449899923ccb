
/- ChainSame: its walk. -/
import Derived.Test.YtjkolpioglpigaaDoorChM
import Derived.Test.YtjkolpioglpigaaDoorChO
import Derived.OpenShut
namespace Go.Proofs.YtjkolpioglpigaaDoor
open Go.RowKit
set_option linter.unusedVariables false
set_option maxRecDepth 10000 in
set_option maxHeartbeats 2000000 in
theorem ChainSame_walk (w : World) (hL : LaidC w) (s0 : Int) (hs0 : (Lit.int .u64 s0).wf = true) (x : List UInt8) (hx : x.length = 32) (y : List UInt8) (hy : y.length = 32) (A3 : Option Addr) (c3 : Nat) (l3 : List (List UInt8)) (hc3 : l3.length ≤ c3) (hm3 : c3 ≤ maxLen) (h32 : ∀ l ∈ l3, l.length = 32) (hr3 : Rd w w.heap.size A3 (l3.flatten.map cb)) (same : Bool) :
    Calls Tryd.prog 7 #[.int .u64 s0, .agg (x.map cb).toArray, .agg (y.map cb).toArray, .slice A3 l3.length c3, .bool same] w fun e w' => e = .returned (.bool true) ∧ Below w.heap.size w w' := by
  unfold maxLen at hm3
  have hbs := bounds_u64 hs0
  obtain ⟨s, rfl⟩ := Int.eq_ofNat_of_zero_le hbs.1
  have hs : s < 18446744073709551616 := by omega
  clear hs0 hbs
  have HL := hid hL
  have HR := hid hr3
  clear hL hr3
  have hax := aggHL hx
  have hay := aggHL hy
  have hA : Blk ((w.alloc (.cells (x.map cb).toArray tH)).alloc (.cells (y.map cb).toArray tH)) w.heap.size tH (x.map cb).toArray := (Blk.new w _ _).alloc _
  have hB : Blk ((w.alloc (.cells (x.map cb).toArray tH)).alloc (.cells (y.map cb).toArray tH)) (w.heap.size + 1) tH (y.map cb).toArray := by
    have := Blk.new (w.alloc (.cells (x.map cb).toArray tH)) tH (y.map cb).toArray
    rwa [World.size_alloc] at this
  have hb0 : Below w.heap.size w ((w.alloc (.cells (x.map cb).toArray tH)).alloc (.cells (y.map cb).toArray tH)) := bx_alloc (bx_alloc (Below.refl _ _) _) _
  go_enter Tryd.func7, Tryd.ntmps7
  go_wp2_with fail
  generalize (w.alloc (.cells (x.map cb).toArray tH)).alloc (.cells (y.map cb).toArray tH) = w1 at *
  obtain ⟨g6, hg6⟩ : ∃ g6, g6 = w.heap.size := ⟨_, rfl⟩
  obtain ⟨g7, hg7⟩ : ∃ g7, g7 = w.heap.size + 1 := ⟨_, rfl⟩
  rw [← hg7] at hB ⊢
  rw [← hg6] at hA ⊢
  have hne : g6 ≠ g7 := by omega
  have hwg : w.heap.size ≤ g7 := by omega
  clear hg6 hg7
  refine (chAwake w1 (HL.out.below hb0)).mono ?_
  rintro e w2 ⟨rfl, hb2⟩
  have hA2 := hA.below hb2 hA.lt
  have hB2 := hB.below hb2 hB.lt
  have hb02 := bx_trans hb0 hb2
  clear hA hB hb0 hb2
  by_cases h20 : 20 < l3.length
  · go_wp2
    go_ret
    exact ⟨rfl, hb02⟩
  cases same with
  | false =>
    have hcA := blk_cells hA2
    have hcB := blk_cells hB2
    go_wp2_with (first
      | ((with_reducible refine wpAtC ?_); refine wpList_loadG rfl _ _ rfl _ _ rfl (x.map cb) hax hcA ?_; simp only [Act.put, List.setIfInBounds_toArray, List.set_cons_succ, List.set_cons_zero])
      | ((with_reducible refine wpAtC ?_); refine wpList_loadG rfl _ _ rfl _ _ rfl (y.map cb) hay hcB ?_; simp only [Act.put, List.setIfInBounds_toArray, List.set_cons_succ, List.set_cons_zero])
      | ((with_reducible refine wpAtC ?_); refine wpList_gives rfl (gives_buildKy (m := s) (h := x) (S := fun v w' => v = .agg (kcell s x).toArray ∧ w' = _) rfl rfl rfl hx ⟨rfl, rfl⟩) ?_; rintro v4 w4 ⟨rfl, rfl⟩; simp only [Act.put, List.setIfInBounds_toArray, List.set_cons_succ, List.set_cons_zero])
      | ((with_reducible refine wpAtC ?_); refine wpList_gives rfl (gives_buildKy (m := s) (h := y) (S := fun v w' => v = .agg (kcell s y).toArray ∧ w' = _) rfl rfl rfl hy ⟨rfl, rfl⟩) ?_; rintro v4 w4 ⟨rfl, rfl⟩; simp only [Act.put, List.setIfInBounds_toArray, List.set_cons_succ, List.set_cons_zero]))
    have hAX := hA2
    have hBX := hB2
    have HBX := hid hb02
    clear hA2 hB2 hb02 hcA hcB
    rename World => wX

    refine (Verify_any wX (HL.out.below HBX.out) s s l3.length c3 A3 x y l3 rfl hs hs hx hy h32 ((HR.out.below HBX.out).more HBX.out.size) hc3 (by omega) (by omega)).mono ?_
    rintro e w9 ⟨rfl, hb9⟩
    have hA9 := hAX.below hb9 hAX.lt
    have hB9 := hBX.below hb9 hBX.lt
    have HB9 := hid (bx_trans HBX.out hb9)
    clear hAX hBX HBX hb9
    by_cases h1 : s < 1
    · rw [verL_out (.inl h1)]
      go_wp2
      go_ret
      exact ⟨rfl, HB9.out⟩
    have heq := eq_hash x y hx hy
    have hcx := blk_cells hA9
    have hcy := blk_cells hB9
    by_cases hp : l3.length = 0
    · have hp3 := List.eq_nil_of_length_eq_zero hp
      rw [verL_same (by omega) hp3, hp]
      clear hp hp3 h32 HR hc3
      by_cases hxy : x = y
      · rw [if_pos hxy]
        rw [show (x == y) = true by simpa using hxy] at heq
        clear hxy
        go_wp2_with (first
          | ((with_reducible refine wpAtC ?_); refine wpList_loadG rfl _ _ rfl _ _ rfl (x.map cb) hax hcx ?_; simp only [Act.put, List.setIfInBounds_toArray, List.set_cons_succ, List.set_cons_zero])
          | ((with_reducible refine wpAtC ?_); refine wpList_loadG rfl _ _ rfl _ _ rfl (y.map cb) hay hcy ?_; simp only [Act.put, List.setIfInBounds_toArray, List.set_cons_succ, List.set_cons_zero]))
        go_ret
        exact ⟨rfl, HB9.out⟩
      · rw [if_neg hxy]
        rw [show (x == y) = false by simpa using hxy] at heq
        clear hxy
        go_wp2_with (first
          | ((with_reducible refine wpAtC ?_); refine wpList_loadG rfl _ _ rfl _ _ rfl (x.map cb) hax hcx ?_; simp only [Act.put, List.setIfInBounds_toArray, List.set_cons_succ, List.set_cons_zero])
          | ((with_reducible refine wpAtC ?_); refine wpList_loadG rfl _ _ rfl _ _ rfl (y.map cb) hay hcy ?_; simp only [Act.put, List.setIfInBounds_toArray, List.set_cons_succ, List.set_cons_zero]))
        go_ret
        exact ⟨rfl, HB9.out⟩
    · have hl : longN s s = 0 := by
        rw [longN_eq (by omega) (Nat.le_refl _), steps_no (by omega), whole_no (by omega)]
        rfl
      rw [verL_short (by omega) (Nat.le_refl _) (by rw [hl]; exact hp)]
      have hpz : ((l3.length : Int) == 0) = false := by simp; intro h; rw [h] at hp; exact hp rfl
      clear hl hp h32 HR hc3
      cases hxy : (x == y) with
      | true =>
        rw [hxy] at heq
        clear hxy
        go_wp2_with (first
          | ((with_reducible refine wpAtC ?_); refine wpList_loadG rfl _ _ rfl _ _ rfl (x.map cb) hax hcx ?_; simp only [Act.put, List.setIfInBounds_toArray, List.set_cons_succ, List.set_cons_zero])
          | ((with_reducible refine wpAtC ?_); refine wpList_loadG rfl _ _ rfl _ _ rfl (y.map cb) hay hcy ?_; simp only [Act.put, List.setIfInBounds_toArray, List.set_cons_succ, List.set_cons_zero]))
        go_ret
        exact ⟨rfl, HB9.out⟩
      | false =>
        rw [hxy] at heq
        clear hxy
        go_wp2_with (first
          | ((with_reducible refine wpAtC ?_); refine wpList_loadG rfl _ _ rfl _ _ rfl (x.map cb) hax hcx ?_; simp only [Act.put, List.setIfInBounds_toArray, List.set_cons_succ, List.set_cons_zero])
          | ((with_reducible refine wpAtC ?_); refine wpList_loadG rfl _ _ rfl _ _ rfl (y.map cb) hay hcy ?_; simp only [Act.put, List.setIfInBounds_toArray, List.set_cons_succ, List.set_cons_zero]))
        go_ret
        exact ⟨rfl, HB9.out⟩
  | true =>
    have hcA := blk_cells hA2
    go_wp2_with (first
      | ((with_reducible refine wpAtC ?_); refine wpList_loadG rfl _ _ rfl _ _ rfl (x.map cb) hax hcA ?_; simp only [Act.put, List.setIfInBounds_toArray, List.set_cons_succ, List.set_cons_zero])
      | ((with_reducible refine wpAtC ?_); refine wpList_store_agg rfl _ _ _ rfl _ _ rfl (x.map cb).toArray rfl (aggHS hx) hB2 (by rw [List.size_toArray, List.size_toArray, List.length_map, List.length_map]; omega) (one_cbA x) ?_; intro w3 hp3; simp only [Act.put]; rw [show spl (y.map cb).toArray 0 (x.map cb).toArray.toList = (x.map cb).toArray from spl_whole (by rw [List.size_toArray, List.size_toArray, List.length_map, List.length_map]; omega)] at hp3; have hA3 := hp3.other hA2 hne; have hB3 := hp3.blk; have hcA3 := blk_cells hA3; have hcB3 := blk_cells hB3)
      | ((with_reducible refine wpAtC ?_); refine wpList_loadG rfl _ _ rfl _ _ rfl (x.map cb) hax hcA3 ?_; simp only [Act.put, List.setIfInBounds_toArray, List.set_cons_succ, List.set_cons_zero])
      | ((with_reducible refine wpAtC ?_); refine wpList_loadG rfl _ _ rfl _ _ rfl (x.map cb) hax hcB3 ?_; simp only [Act.put, List.setIfInBounds_toArray, List.set_cons_succ, List.set_cons_zero])
      | ((with_reducible refine wpAtC ?_); refine wpList_gives rfl (gives_buildKy (m := s) (h := x) (S := fun v w' => v = .agg (kcell s x).toArray ∧ w' = _) rfl rfl rfl hx ⟨rfl, rfl⟩) ?_; rintro v4 w4 ⟨rfl, rfl⟩; simp only [Act.put, List.setIfInBounds_toArray, List.set_cons_succ, List.set_cons_zero]))
    have hAX := hA3
    have hBX := hB3
    have HBX := hid (bx_put hb02 hp3 hwg)
    clear hA2 hB2 hb02 hcA hcA3 hcB3 hp3 hA3 hB3
    rename World => wX

    refine (Verify_any wX (HL.out.below HBX.out) s s l3.length c3 A3 x x l3 rfl hs hs hx hx h32 ((HR.out.below HBX.out).more HBX.out.size) hc3 (by omega) (by omega)).mono ?_
    rintro e w9 ⟨rfl, hb9⟩
    have hA9 := hAX.below hb9 hAX.lt
    have hB9 := hBX.below hb9 hBX.lt
    have HB9 := hid (bx_trans HBX.out hb9)
    clear hAX hBX HBX hb9
    by_cases h1 : s < 1
    · rw [verL_out (.inl h1)]
      go_wp2
      go_ret
      exact ⟨rfl, HB9.out⟩
    have heq := eq_hash x x hx hx
    have hcx := blk_cells hA9
    have hcy := blk_cells hB9
    by_cases hp : l3.length = 0
    · have hp3 := List.eq_nil_of_length_eq_zero hp
      rw [verL_same (by omega) hp3, hp]
      clear hp hp3 h32 HR hc3
      by_cases hxy : x = x
      · rw [if_pos hxy]
        rw [show (x == x) = true by simp] at heq
        clear hxy
        go_wp2_with (first
          | ((with_reducible refine wpAtC ?_); refine wpList_loadG rfl _ _ rfl _ _ rfl (x.map cb) hax hcx ?_; simp only [Act.put, List.setIfInBounds_toArray, List.set_cons_succ, List.set_cons_zero])
          | ((with_reducible refine wpAtC ?_); refine wpList_loadG rfl _ _ rfl _ _ rfl (x.map cb) hax hcy ?_; simp only [Act.put, List.setIfInBounds_toArray, List.set_cons_succ, List.set_cons_zero]))
        go_ret
        exact ⟨rfl, HB9.out⟩
      · exact absurd rfl hxy
    · have hl : longN s s = 0 := by
        rw [longN_eq (by omega) (Nat.le_refl _), steps_no (by omega), whole_no (by omega)]
        rfl
      rw [verL_short (by omega) (Nat.le_refl _) (by rw [hl]; exact hp)]
      have hpz : ((l3.length : Int) == 0) = false := by simp; intro h; rw [h] at hp; exact hp rfl
      clear hl hp h32 HR hc3
      cases hxy : (x == x) with
      | true =>
        rw [hxy] at heq
        clear hxy
        go_wp2_with (first
          | ((with_reducible refine wpAtC ?_); refine wpList_loadG rfl _ _ rfl _ _ rfl (x.map cb) hax hcx ?_; simp only [Act.put, List.setIfInBounds_toArray, List.set_cons_succ, List.set_cons_zero])
          | ((with_reducible refine wpAtC ?_); refine wpList_loadG rfl _ _ rfl _ _ rfl (x.map cb) hax hcy ?_; simp only [Act.put, List.setIfInBounds_toArray, List.set_cons_succ, List.set_cons_zero]))
        go_ret
        exact ⟨rfl, HB9.out⟩
      | false => simp at hxy
end Go.Proofs.YtjkolpioglpigaaDoor
