
/- Clashes: Cut. Clashes: Cut, narrow, both, Equal walked. Clashes: the rows that a path's closure gathers. Clashes: the closure of rows. Clashes: the flags of a path, plain; what a path hashes. -/
import Derived.Test.YtgaefejblmnklaaDoorChL
import Derived.Test.YtgaefejblmnklaaDoorOwnT
namespace Go.Proofs.YtgaefejblmnklaaDoor
section
open Go.RowKit
set_option linter.unusedVariables false
/-- How many bytes of a hash count. -/
def wideN (wide : Int) : Nat := min wide.toNat 32
def cutL (k : Nat) (h : List UInt8) : List UInt8 := h.take k ++ List.replicate (h.length - k) 0
theorem cutL_len (k : Nat) (h : List UInt8) (hl : h.length = 32) : (cutL k h).length = 32 := by
  unfold cutL
  rw [List.length_append, List.length_take, List.length_replicate]
  omega
theorem cutL_set {k i : Nat} {h : List UInt8} (hk : k ≤ i) (hi : i < h.length) : (h.take i ++ List.replicate (h.length - i) 0 : List UInt8) = h.take i ++ List.replicate (h.length - i) 0 := rfl
/-- Behind the first i bytes' turn. -/
def cutTo (k i : Nat) (h : List UInt8) : List UInt8 := h.mapIdx fun j x => if k ≤ j ∧ j < i then 0 else x
theorem cutTo_len (k i : Nat) (h : List UInt8) : (cutTo k i h).length = h.length := by unfold cutTo; simp
theorem cutTo_zero (k : Nat) (h : List UInt8) : cutTo k 0 h = h := by
  unfold cutTo
  apply List.ext_getElem?
  intro j
  rw [List.getElem?_mapIdx]
  cases h[j]? with
  | none => rfl
  | some x => simp
theorem cutTo_less {k i : Nat} (h : List UInt8) (hi : i < k) : cutTo k (i + 1) h = cutTo k i h := by
  unfold cutTo
  apply List.ext_getElem?
  intro j
  rw [List.getElem?_mapIdx, List.getElem?_mapIdx]
  congr 1
  funext x
  by_cases h1 : k ≤ j ∧ j < i + 1
  · omega
  · rw [if_neg h1, if_neg (by omega)]
theorem cutTo_set {k i : Nat} (h : List UInt8) (hi : k ≤ i) : (cutTo k i h).set i 0 = cutTo k (i + 1) h := by
  apply List.ext_getElem?
  intro j
  rw [List.getElem?_set]
  unfold cutTo
  rw [List.length_mapIdx, List.getElem?_mapIdx, List.getElem?_mapIdx]
  by_cases hji : i = j
  · subst hji
    rw [if_pos rfl]
    split
    · rename_i hl
      rw [List.getElem?_eq_getElem hl]
      simp [hi]
    · rename_i hl
      rw [List.getElem?_eq_none (by omega)]
      rfl
  · rw [if_neg hji]
    congr 1
    funext x
    by_cases h1 : k ≤ j ∧ j < i
    · rw [if_pos h1, if_pos (by omega)]
    · rw [if_neg h1, if_neg (by omega)]
theorem cutTo_all {k : Nat} (h : List UInt8) : cutTo k h.length h = cutL k h := by
  apply List.ext_getElem?
  intro j
  unfold cutTo cutL
  rw [List.getElem?_mapIdx, List.getElem?_append, List.length_take]
  by_cases hj : j < h.length
  · rw [List.getElem?_eq_getElem hj]
    by_cases hk : k ≤ j
    · rw [if_neg (by omega), List.getElem?_replicate, if_pos (by omega)]
      simp [hk, hj]
    · rw [if_pos (by omega), List.getElem?_take, if_pos (by omega), List.getElem?_eq_getElem hj]
      simp [hk]
  · rw [List.getElem?_eq_none (by omega)]
    by_cases hk : j < min k h.length
    · omega
    · rw [if_neg hk, List.getElem?_replicate, if_neg (by omega)]
      rfl
end
section
open Go.RowKit
set_option linter.unusedVariables false
theorem cutTo_run (k i : Nat) {h : List UInt8} (hh : h.length = 32) (hi : i < 32) : (((cutTo k i h).map cb).toArray)[i]? = some (cb ((cutTo k i h)[i]'(by rw [cutTo_len, hh]; exact hi))) := by
  rw [List.getElem?_toArray, List.getElem?_map, List.getElem?_eq_getElem (by rw [cutTo_len, hh]; exact hi)]
  rfl
set_option maxRecDepth 100000 in
set_option maxHeartbeats 1000000 in
theorem Cut_any (w : World) (wide : Int) {h : List UInt8} (hh : h.length = 32) :
    Calls Tryd.prog 8 #[.int .i64 wide, .agg (h.map cb).toArray] w fun e w' => e = .returned (.agg ((cutL (wideN wide) h).map cb).toArray) ∧ Below w.heap.size w w' := by
  have hB1 : Blk (w.alloc (.cells (h.map cb).toArray 23)) w.heap.size tH (h.map cb).toArray := Blk.new w _ _
  have hb1 : Below w.heap.size w (w.alloc (.cells (h.map cb).toArray 23)) := bx_alloc (Below.refl _ _) _
  have hs1 : (w.alloc (.cells (h.map cb).toArray 23)).heap.size = w.heap.size + 1 := by simp
  have HCA := hid (@cutTo_all (wideN wide) h)
  go_enter Tryd.func8, Tryd.ntmps8
  go_wp2_with (refine wpList_alloc rfl _ rfl zeroH ?_; intro g4 w4 hg4 hg4' hblk4 hb4)
  have hB4 := hB1.below hb4 (by omega)
  have hb04 := bx_trans hb1 hb4
  have hs4 := hb4.size
  obtain ⟨gB, hgB⟩ : ∃ gB, gB = w.heap.size := ⟨_, rfl⟩
  have hgB4 : gB < g4 := by omega
  have hgBw : w.heap.size ≤ gB := by omega
  rw [← hgB] at hB4 ⊢
  have hw4 : w.heap.size ≤ g4 := by omega
  clear hB1 hb1 hs1 hb4 hg4 hgB
  try simp only [Act.put, Array.setIfInBounds, List.set_toArray, List.set_cons_succ, List.set_cons_zero]
  have hB40 : Blk w4 gB tH ((cutTo (wideN wide) 0 h).map cb).toArray := by rw [cutTo_zero]; exact hB4
  clear hB4
  go_wp2_with fail
  go_loopw [5, 6] (fun v5 v6 wr => ∃ i : Nat, i ≤ 32 ∧ v6 = .int .i64 (i : Int) ∧ Blk wr gB tH ((cutTo (wideN wide) i h).map cb).toArray ∧ Blk wr g4 tH (Value.agg (List.replicate 32 (cb 0)).toArray).cells ∧ Below w.heap.size w wr) (fun _ v6 _ => 33 - (intOf v6).toNat)
  case atStart => exact ⟨0, by omega, rfl, hB40, hblk4, hb04⟩
  case round =>
    obtain ⟨i, hi, rfl, hblk, hz, hbr⟩ := hrel
    clear hB40 hblk4 hb04
    by_cases hlt : i < 32
    · have hc := hblk.cell i
      rw [cutTo_run _ _ hh hlt] at hc
      by_cases hwi : wide ≤ (i : Int)
      · have hk : wideN wide ≤ i := by unfold wideN; omega
        have hp := setCell_put hblk (i := i) (cb 0)
        rw [List.setIfInBounds_toArray, ← List.map_set, cutTo_set h hk] at hp
        have HP := hid hp
        have HZ := hid hz
        have hfi := hblk.frozen i
        clear hp hz hk
        rw [show cb 0 = .int .u8 0 from rfl] at HP
        go_wp2
        have hp := HP.out
        go_roundw
        case rel => exact ⟨i + 1, by omega, rfl, hp.blk, hp.other HZ.out (by omega), bx_put hbr hp hgBw⟩
        case measure => simp [intOf]; omega
      · have hk : i < wideN wide := by unfold wideN; omega
        have he := cutTo_less h hk
        have hwi2 : (decide (wide ≤ (i : Int))) = false := by simp; omega
        have HE := hid he
        clear he hk
        go_wp2
        go_roundw
        case rel => exact ⟨i + 1, by omega, rfl, by rw [HE.out]; exact hblk, hz, hbr⟩
        case measure => simp [intOf]; omega
    · obtain rfl : i = 32 := by omega
      have hall : cutTo (wideN wide) 32 h = cutL (wideN wide) h := by rw [← hh]; exact HCA.out
      rw [hall] at hblk
      have hlen := cutL_len (wideN wide) h hh
      clear hall
      obtain ⟨X, hX⟩ : ∃ X, X = cutL (wideN wide) h := ⟨_, rfl⟩
      rw [← hX] at hblk hlen
      have HX := hid hX
      clear hX
      go_wp2_with (first
        | (refine wpList_load_agg rfl _ _ rfl _ _ rfl (X.map cb) (aggHL hlen) (blk_cells hblk) ?_; simp only [Act.put, List.setIfInBounds_toArray, List.set_cons_succ, List.set_cons_zero])
        | (refine wpList_store_agg rfl _ _ _ rfl _ _ rfl (X.map cb).toArray rfl (aggHS hlen) hz (szH hlen) (one_cbA X) ?_; intro w6 hput; simp only [Act.put]))
      rw [splH hlen] at hput
      exact bodyPost_ret (results_agg (cs := X.map cb) rfl rfl (aggHL hlen) (blk_cells hput.blk)) rfl ⟨by rw [HX.out], bx_put hbr hput hw4⟩
/-- The narrow hash of bytes. -/
def narL (wide : Int) (b : List UInt8) : List UInt8 := cutL (wideN wide) (shaL b)
theorem narL_len (wide : Int) (b : List UInt8) : (narL wide b).length = 32 := cutL_len _ _ (shaL_length b)
set_option maxRecDepth 100000 in
set_option maxHeartbeats 1000000 in
theorem narrow_any (w : World) (hL : Laid w) (wide : Int) {A : Option Addr} {c B' : Nat} {l : List UInt8} (hr : Rd w B' A (l.map cb)) (hB' : B' ≤ w.heap.size) (hlc : l.length ≤ c) (ht : l.length ≤ 800000000) :
    Calls Tryd.prog 21 #[.int .i64 wide, .slice A l.length c] w fun e w' => e = .returned (.agg ((narL wide l).map cb).toArray) ∧ Below w.heap.size w w' := by
  have HL := hid hL
  have HR := hid hr
  clear hL hr
  go_enter Tryd.func21, Tryd.ntmps21
  go_wp2_with (refine wpList_alloc rfl _ rfl zeroH ?_; intro g4 w4 hg4 hg4' hblk4 hb4)
  have hb1 := bx_alloc hb4 (.cells #[.slice A l.length c] 29)
  go_wp2_with fail
  have hb5 : Below w.heap.size w (w4.alloc (.cells #[.slice A l.length c] 29)) := bx_alloc hb4 _
  refine (Of_any _ (HL.out.below hb5) (ls := [l]) (rdBB_one (l := l) (B := w4.heap.size) ⟨A, c, rfl, hlc, (HR.out.below (hb4.mono hB')).more (Nat.le_trans hB' hb4.size)⟩ (Nat.le_refl _)) (Nat.le_refl _) (by simp) (by simp; omega)).mono ?_
  rintro e w6 ⟨rfl, hb6⟩
  rw [show ([l] : List (List UInt8)).flatten = l from by simp]
  have hb06 := bx_trans hb5 hb6
  have hblk6 := hblk4.below (bx_trans (bx_alloc (Below.refl _ w4) (.cells #[.slice A l.length c] 29)) hb6) hg4'
  go_wp2_with fail
  refine (Cut_any w6 wide (shaL_length l)).mono ?_
  rintro e w7 ⟨rfl, hb7⟩
  have hb07 := bx_trans hb06 hb7
  have hblk7 := hblk6.below hb7 hblk6.lt
  have hlen := narL_len wide l
  rw [show cutL (wideN wide) (shaL l) = narL wide l from rfl]
  obtain ⟨X, hX⟩ : ∃ X, X = narL wide l := ⟨_, rfl⟩
  rw [← hX] at hlen ⊢
  have HX := hid hX
  clear hX
  go_wp2_with (refine wpList_store_agg rfl _ _ _ rfl _ _ rfl (X.map cb).toArray rfl (aggHS hlen) hblk7 (szH hlen) (one_cbA X) ?_; intro w8 hput; simp only [Act.put])
  rw [splH hlen] at hput
  exact bodyPost_ret (results_agg (cs := X.map cb) rfl rfl (aggHL hlen) (blk_cells hput.blk)) rfl ⟨by rw [HX.out], bx_put hb07 hput hg4⟩
set_option maxHeartbeats 1000000 in
theorem Equal_any (w : World) {A A' : Option Addr} {c c' B B' : Nat} {l l' : List UInt8} (hr : Rd w B A (l.map cb)) (hr' : Rd w B' A' (l'.map cb)) :
    Calls Tryd.prog 19 #[.slice A l.length c, .slice A' l'.length c'] w fun e w' => e = .returned (.bool (l == l')) ∧ Below w.heap.size w w' := by
  have hc1 := conv_str (P := Tryd.prog) (src := 29) (dst := 9) Tryd.underlying29 Tryd.underlying5 Tryd.underlying9 c hr
  have hc2 := conv_str (P := Tryd.prog) (src := 29) (dst := 9) Tryd.underlying29 Tryd.underlying5 Tryd.underlying9 c' hr'
  clear hr hr'
  go_enter Tryd.func19, Tryd.ntmps19
  go_wp2
  go_ret
  exact ⟨rfl, Below.refl _ _⟩
/-- Bytes in a block of their own. -/
def OwnB (w : World) (B : Nat) (v : Value) (l : List UInt8) : Prop := w.ownsRow B 5 1 v l.length (l.map cb)
theorem OwnB.below {w w' : World} {B : Nat} {v : Value} {l : List UInt8} (h : OwnB w B v l) (hb : Below w.heap.size w w') : OwnB w' B v l := own_keep h hb
theorem OwnB.rd {w : World} {B : Nat} {v : Value} {l : List UInt8} (h : OwnB w B v l) : RdB w w.heap.size v l := by
  obtain ⟨A, c, q1, q2, q3, q4⟩ := own_form h
  exact ⟨A, c, q1, q2, q4⟩
theorem OwnB.more {w : World} {B B' : Nat} {v : Value} {l : List UInt8} (h : OwnB w B v l) (hB : B' ≤ B) : OwnB w B' v l := by
  refine ⟨h.1, h.2.imp id ?_⟩
  rintro ⟨g, cap, cur, h1, h2, h3⟩
  exact ⟨g, cap, cur, h1, by omega, h3⟩
def FP.ownB (B : Nat) (l : List UInt8) : FP := ⟨fun v w => OwnB w B v l, fun _ _ _ hb h => h.below hb⟩
set_option maxRecDepth 100000 in
set_option maxHeartbeats 1000000 in
theorem both_any (w : World) {a b : List UInt8} (ha : a.length = 32) (hb : b.length = 32) :
    Calls Tryd.prog 30 #[.agg (a.map cb).toArray, .agg (b.map cb).toArray] w fun e w' => ∃ v, e = .returned v ∧ OwnB w' w.heap.size v (1 :: (a ++ b)) ∧ Below w.heap.size w w' := by
  have hA : Blk ((w.alloc (.cells (a.map cb).toArray 23)).alloc (.cells (b.map cb).toArray 23)) w.heap.size tH (a.map cb).toArray := (Blk.new w _ _).alloc _
  have hB : Blk ((w.alloc (.cells (a.map cb).toArray 23)).alloc (.cells (b.map cb).toArray 23)) (w.heap.size + 1) tH (b.map cb).toArray := by
    have := Blk.new (w.alloc (.cells (a.map cb).toArray 23)) tH (b.map cb).toArray
    rwa [World.size_alloc] at this
  have hb0 : Below w.heap.size w ((w.alloc (.cells (a.map cb).toArray 23)).alloc (.cells (b.map cb).toArray 23)) := bx_alloc (bx_alloc (Below.refl _ _) _) _
  go_enter Tryd.func30, Tryd.ntmps30
  go_wp2_with fail
  generalize hga : w.heap.size + 1 = gb at *
  generalize (w.alloc (.cells (a.map cb).toArray 23)).alloc (.cells (b.map cb).toArray 23) = w4 at *
  clear hga
  refine wp_flow (by kernel_rfl) [0, 0, 0, 7, 15, 31] 5 [false, false, false, false, false, true, true, true, true, true] (by kernel_rfl) (by decide) (by kernel_rfl) [FP.bytes [1], FP.bytes a, FP.bytes b, FP.rows [[1], a, b], FP.ownB w.heap.size (1 :: (a ++ b))] ?_ ?_
  · refine allFrom_cons ?_ ?_
    · intro a_ w_ hk_
      have hx_ := hk_.ext
      clear hk_
      refine flow_plain rfl ?_
      unfold gives
      have hc_ : ∀ v, a_.eval (.const v) = v := fun _ => rfl
      have hn_ : ∀ f, a_.eval (.func f) = .func (.func f) #[] #[] := fun _ => rfl
      generalize a_.eval = ρ_ at *
      go_simp
      exact ⟨bx_alloc (Below.refl _ _) _, rdB_of_row (heap_new rfl) rfl rfl (by simp)⟩
    refine allFrom_cons ?_ ?_
    · intro a_ w_ hk_
      have h2 : a_.eval (.tmp 2) = .pointer (some ⟨w.heap.size, 0, none⟩) := hk_.old 2 (by kernel_rfl)
      have hx_ := hk_.ext
      clear hk_
      refine flow_plain rfl ?_
      unfold gives
      have hc_ : ∀ v, a_.eval (.const v) = v := fun _ => rfl
      have hn_ : ∀ f, a_.eval (.func f) = .func (.func f) #[] #[] := fun _ => rfl
      generalize a_.eval = ρ_ at *
      go_simp
      exact ⟨Below.refl _ _, hash_sl (hA.below hx_ hA.lt) ha⟩
    refine allFrom_cons ?_ ?_
    · intro a_ w_ hk_
      have h3 : a_.eval (.tmp 3) = .pointer (some ⟨gb, 0, none⟩) := hk_.old 3 (by kernel_rfl)
      have hx_ := hk_.ext
      clear hk_
      refine flow_plain rfl ?_
      unfold gives
      have hc_ : ∀ v, a_.eval (.const v) = v := fun _ => rfl
      have hn_ : ∀ f, a_.eval (.func f) = .func (.func f) #[] #[] := fun _ => rfl
      generalize a_.eval = ρ_ at *
      go_simp
      exact ⟨Below.refl _ _, hash_sl (hB.below hx_ hB.lt) hb⟩
    refine allFrom_cons ?_ ?_
    · intro a_ w_ hk_
      have h5 : (FP.bytes [1]).p (a_.eval (.tmp 5)) w_ := hk_.got 0 5 _ (by kernel_rfl) rfl rfl
      have h6 : (FP.bytes a).p (a_.eval (.tmp 6)) w_ := hk_.got 1 6 _ (by kernel_rfl) rfl rfl
      have h7 : (FP.bytes b).p (a_.eval (.tmp 7)) w_ := hk_.got 2 7 _ (by kernel_rfl) rfl rfl
      have hx_ := hk_.ext
      clear hk_
      refine flow_plain rfl ?_
      unfold gives
      have hc_ : ∀ v, a_.eval (.const v) = v := fun _ => rfl
      have hn_ : ∀ f, a_.eval (.func f) = .func (.func f) #[] #[] := fun _ => rfl
      obtain ⟨A5, c5, h5, m5, r5⟩ := h5
      obtain ⟨A6, c6, h6, m6, r6⟩ := h6
      obtain ⟨A7, c7, h7, m7, r7⟩ := h7
      generalize a_.eval = ρ_ at *
      go_simp
      exact rdV_three ⟨_, _, rfl, m5, r5⟩ ⟨_, _, by rw [ha], m6, r6⟩ ⟨_, _, by rw [hb], m7, r7⟩ (Nat.le_refl _)
    refine allFrom_cons ?_ ?_
    · intro a_ w_ hk_
      have h8 : (FP.rows [[1], a, b]).p (a_.eval (.tmp 8)) w_ := hk_.got 3 8 _ (by kernel_rfl) rfl rfl
      have hx_ := hk_.ext
      clear hk_
      refine flow_plain rfl ?_
      unfold gives
      have hc_ : ∀ v, a_.eval (.const v) = v := fun _ => rfl
      have hn_ : ∀ f, a_.eval (.func f) = .func (.func f) #[] #[] := fun _ => rfl
      obtain ⟨A8, c8, h8, r8⟩ := h8
      generalize a_.eval = ρ_ at *
      go_simp
      exact (Concat_any _ (ls := [[1], a, b]) r8 (Nat.le_refl _) (by simp) (by simp; omega)).mono fun e w' ⟨v, h1, h2, h3⟩ => ⟨v, h1, h3, by
        have hfl : ([[1], a, b] : List (List UInt8)).flatten = 1 :: (a ++ b) := by simp
        rw [hfl] at h2
        exact OwnB.more h2 (Nat.le_trans hb0.size hx_.size)⟩
    exact allFrom_nil
  intro f_ w_ hx_ hf_
  have h5 : (FP.bytes [1]).p (f_ 5) w_ := hf_ 0 5 _ (by decide) rfl rfl
  have h6 : (FP.bytes a).p (f_ 6) w_ := hf_ 1 6 _ (by decide) rfl rfl
  have h7 : (FP.bytes b).p (f_ 7) w_ := hf_ 2 7 _ (by decide) rfl rfl
  have h8 : (FP.rows [[1], a, b]).p (f_ 8) w_ := hf_ 3 8 _ (by decide) rfl rfl
  have h9 : (FP.ownB w.heap.size (1 :: (a ++ b))).p (f_ 9) w_ := hf_ 4 9 _ (by decide) rfl rfl
  simp only [mix, List.drop_succ_cons, List.drop_zero]
  clear hf_
  go_wp2_with fail
  go_ret
  exact ⟨_, rfl, h9, bx_trans hb0 hx_⟩
set_option maxRecDepth 100000 in
set_option maxHeartbeats 1000000 in
theorem Check_any (w : World) (hL : Laid w) (wide : Int) {A A' : Option Addr} {c c' B B' : Nat} {l l' : List UInt8} (hr : Rd w B A (l.map cb)) (hB : B ≤ w.heap.size) (hlc : l.length ≤ c) (ht : l.length ≤ 800000000) (hr' : Rd w B' A' (l'.map cb)) (hB' : B' ≤ w.heap.size) (hlc' : l'.length ≤ c') (ht' : l'.length ≤ 800000000) :
    Calls Tryd.prog 12 #[.int .i64 wide, .agg #[.slice A l.length c, .slice A' l'.length c']] w fun e w' => e = .returned (.bool (!(l == l') && (narL wide l == narL wide l'))) ∧ Below w.heap.size w w' := by
  have hx0 : Blk (w.alloc (.cells #[.slice A l.length c, .slice A' l'.length c'] 36)) w.heap.size 36 #[.slice A l.length c, .slice A' l'.length c'] := Blk.new w _ _
  have hb0 : Below w.heap.size w (w.alloc (.cells #[.slice A l.length c, .slice A' l'.length c'] 36)) := bx_alloc (Below.refl _ _) _
  have HL := hid hL
  have HR := hid hr
  have HR' := hid hr'
  clear hL hr hr'
  have hq := eq_hash (narL wide l) (narL wide l') (narL_len _ _) (narL_len _ _)
  go_enter Tryd.func12, Tryd.ntmps12
  go_wp2_with fail
  have hg0 : w.heap.size < (w.alloc (.cells #[.slice A l.length c, .slice A' l'.length c'] 36)).heap.size := by simp
  generalize (w.alloc (.cells #[.slice A l.length c, .slice A' l'.length c'] 36)) = w4 at *
  have c0 := hx0.cell 0
  have c1 := hx0.cell 1
  have HX0 := hid hx0
  clear hx0
  cases he : (l == l') with
  | true =>
    refine wp_flow (by kernel_rfl) [0, 1, 0, 4, 15, 31, 63, 127, 127, 383, 1023, 127, 127, 4223, 16383, 32767, 65535, 131071] 17 [false, false, false, false, false, true, true, true, true, true, true, true, true, true, true, true, true, true, true, true, true, true] (by kernel_rfl) (by decide) (by kernel_rfl) [FP.eq (.pointer (some ⟨w.heap.size, 0, none⟩)), FP.eq (.slice A l.length c), FP.eq (.pointer (some ⟨w.heap.size, 1, none⟩)), FP.eq (.slice A' l'.length c'), FP.eq (.bool true), FP.eq (.bool false), FP.eq (.bool false), FP.any, FP.any, FP.any, FP.any, FP.any, FP.any, FP.any, FP.any, FP.any, FP.eq (.bool false)] ?_ ?_
    · refine allFrom_cons ?_ ?_
      · intro a_ w_ hk_
        have h3 : a_.eval (.tmp 3) = .pointer (some ⟨w.heap.size, 0, none⟩) := hk_.old 3 (by kernel_rfl)
        have hx_ := hk_.ext
        clear hk_
        refine flow_plain rfl ?_
        unfold gives
        have hc_ : ∀ v, a_.eval (.const v) = v := fun _ => rfl
        have hn_ : ∀ f, a_.eval (.func f) = .func (.func f) #[] #[] := fun _ => rfl
        generalize a_.eval = ρ_ at *
        go_simp
        exact ⟨Below.refl _ _, rfl⟩
      refine allFrom_cons ?_ ?_
      · intro a_ w_ hk_
        have h5 : a_.eval (.tmp 5) = (.pointer (some ⟨w.heap.size, 0, none⟩)) := hk_.got 0 5 _ (by kernel_rfl) rfl rfl
        have hx_ := hk_.ext
        clear hk_
        refine flow_plain rfl ?_
        unfold gives
        have hc_ : ∀ v, a_.eval (.const v) = v := fun _ => rfl
        have hn_ : ∀ f, a_.eval (.func f) = .func (.func f) #[] #[] := fun _ => rfl
        have hcell := (hx_.cell (p := ⟨w.heap.size, 0, none⟩) hg0).trans c0
        generalize a_.eval = ρ_ at *
        go_simp
        exact ⟨Below.refl _ _, rfl⟩
      refine allFrom_cons ?_ ?_
      · intro a_ w_ hk_
        have h3 : a_.eval (.tmp 3) = .pointer (some ⟨w.heap.size, 0, none⟩) := hk_.old 3 (by kernel_rfl)
        have hx_ := hk_.ext
        clear hk_
        refine flow_plain rfl ?_
        unfold gives
        have hc_ : ∀ v, a_.eval (.const v) = v := fun _ => rfl
        have hn_ : ∀ f, a_.eval (.func f) = .func (.func f) #[] #[] := fun _ => rfl
        generalize a_.eval = ρ_ at *
        go_simp
        exact ⟨Below.refl _ _, rfl⟩
      refine allFrom_cons ?_ ?_
      · intro a_ w_ hk_
        have h7 : a_.eval (.tmp 7) = (.pointer (some ⟨w.heap.size, 1, none⟩)) := hk_.got 2 7 _ (by kernel_rfl) rfl rfl
        have hx_ := hk_.ext
        clear hk_
        refine flow_plain rfl ?_
        unfold gives
        have hc_ : ∀ v, a_.eval (.const v) = v := fun _ => rfl
        have hn_ : ∀ f, a_.eval (.func f) = .func (.func f) #[] #[] := fun _ => rfl
        have hcell := (hx_.cell (p := ⟨w.heap.size, 1, none⟩) hg0).trans c1
        generalize a_.eval = ρ_ at *
        go_simp
        exact ⟨Below.refl _ _, rfl⟩
      refine allFrom_cons ?_ ?_
      · intro a_ w_ hk_
        have h6 : a_.eval (.tmp 6) = (.slice A l.length c) := hk_.got 1 6 _ (by kernel_rfl) rfl rfl
        have h8 : a_.eval (.tmp 8) = (.slice A' l'.length c') := hk_.got 3 8 _ (by kernel_rfl) rfl rfl
        have hx_ := hk_.ext
        clear hk_
        refine flow_plain rfl ?_
        unfold gives
        have hc_ : ∀ v, a_.eval (.const v) = v := fun _ => rfl
        have hn_ : ∀ f, a_.eval (.func f) = .func (.func f) #[] #[] := fun _ => rfl
        generalize a_.eval = ρ_ at *
        go_simp
        exact (Equal_any w_ (HR.out.below ((hb0.trans (hx_.mono hb0.size)).mono hB)) (HR'.out.below ((hb0.trans (hx_.mono hb0.size)).mono hB'))).mono fun e w' hh => ⟨_, hh.1, hh.2, by rw [he]; rfl⟩
      refine allFrom_cons ?_ ?_
      · intro a_ w_ hk_
        have h9 : a_.eval (.tmp 9) = (.bool true) := hk_.got 4 9 _ (by kernel_rfl) rfl rfl
        have hx_ := hk_.ext
        clear hk_
        refine flow_plain rfl ?_
        unfold gives
        have hc_ : ∀ v, a_.eval (.const v) = v := fun _ => rfl
        have hn_ : ∀ f, a_.eval (.func f) = .func (.func f) #[] #[] := fun _ => rfl
        generalize a_.eval = ρ_ at *
        go_simp
        exact ⟨Below.refl _ _, rfl⟩
      refine allFrom_cons ?_ ?_
      · intro a_ w_ hk_
        have h10 : a_.eval (.tmp 10) = (.bool false) := hk_.got 5 10 _ (by kernel_rfl) rfl rfl
        have hx_ := hk_.ext
        clear hk_
        refine flow_plain rfl ?_
        exact gives_move rfl ⟨Below.refl _ _, h10⟩
      refine allFrom_cons ?_ ?_
      · intro a_ w_ hk_
        have h0 : a_.eval (.tmp 0) = .int .i64 wide := hk_.old 0 (by kernel_rfl)
        have hg_ : a_.eval (.tmp 11) = .bool false := hk_.got 6 11 _ (by kernel_rfl) rfl rfl
        have hy_ := hk_.want 6 _ 11 false rfl rfl hg_
        have hx_ := hk_.ext
        clear hk_
        exact flow_skip rfl hy_ (by decide) trivial
      refine allFrom_cons ?_ ?_
      · intro a_ w_ hk_
        have h3 : a_.eval (.tmp 3) = .pointer (some ⟨w.heap.size, 0, none⟩) := hk_.old 3 (by kernel_rfl)
        have hg_ : a_.eval (.tmp 11) = .bool false := hk_.got 6 11 _ (by kernel_rfl) rfl rfl
        have hy_ := hk_.want 6 _ 11 false rfl rfl hg_
        have hx_ := hk_.ext
        clear hk_
        exact flow_skip rfl hy_ (by decide) trivial
      refine allFrom_cons ?_ ?_
      · intro a_ w_ hk_
        have hg_ : a_.eval (.tmp 11) = .bool false := hk_.got 6 11 _ (by kernel_rfl) rfl rfl
        have hy_ := hk_.want 6 _ 11 false rfl rfl hg_
        have hx_ := hk_.ext
        clear hk_
        exact flow_skip rfl hy_ (by decide) trivial
      refine allFrom_cons ?_ ?_
      · intro a_ w_ hk_
        have hg_ : a_.eval (.tmp 11) = .bool false := hk_.got 6 11 _ (by kernel_rfl) rfl rfl
        have hy_ := hk_.want 6 _ 11 false rfl rfl hg_
        have hx_ := hk_.ext
        clear hk_
        exact flow_skip rfl hy_ (by decide) trivial
      refine allFrom_cons ?_ ?_
      · intro a_ w_ hk_
        have h0 : a_.eval (.tmp 0) = .int .i64 wide := hk_.old 0 (by kernel_rfl)
        have hg_ : a_.eval (.tmp 11) = .bool false := hk_.got 6 11 _ (by kernel_rfl) rfl rfl
        have hy_ := hk_.want 6 _ 11 false rfl rfl hg_
        have hx_ := hk_.ext
        clear hk_
        exact flow_skip rfl hy_ (by decide) trivial
      refine allFrom_cons ?_ ?_
      · intro a_ w_ hk_
        have h3 : a_.eval (.tmp 3) = .pointer (some ⟨w.heap.size, 0, none⟩) := hk_.old 3 (by kernel_rfl)
        have hg_ : a_.eval (.tmp 11) = .bool false := hk_.got 6 11 _ (by kernel_rfl) rfl rfl
        have hy_ := hk_.want 6 _ 11 false rfl rfl hg_
        have hx_ := hk_.ext
        clear hk_
        exact flow_skip rfl hy_ (by decide) trivial
      refine allFrom_cons ?_ ?_
      · intro a_ w_ hk_
        have hg_ : a_.eval (.tmp 11) = .bool false := hk_.got 6 11 _ (by kernel_rfl) rfl rfl
        have hy_ := hk_.want 6 _ 11 false rfl rfl hg_
        have hx_ := hk_.ext
        clear hk_
        exact flow_skip rfl hy_ (by decide) trivial
      refine allFrom_cons ?_ ?_
      · intro a_ w_ hk_
        have hg_ : a_.eval (.tmp 11) = .bool false := hk_.got 6 11 _ (by kernel_rfl) rfl rfl
        have hy_ := hk_.want 6 _ 11 false rfl rfl hg_
        have hx_ := hk_.ext
        clear hk_
        exact flow_skip rfl hy_ (by decide) trivial
      refine allFrom_cons ?_ ?_
      · intro a_ w_ hk_
        have hg_ : a_.eval (.tmp 11) = .bool false := hk_.got 6 11 _ (by kernel_rfl) rfl rfl
        have hy_ := hk_.want 6 _ 11 false rfl rfl hg_
        have hx_ := hk_.ext
        clear hk_
        exact flow_skip rfl hy_ (by decide) trivial
      refine allFrom_cons ?_ ?_
      · intro a_ w_ hk_
        have h11 : a_.eval (.tmp 11) = (.bool false) := hk_.got 6 11 _ (by kernel_rfl) rfl rfl
        have hx_ := hk_.ext
        clear hk_
        refine flow_plain rfl ?_
        exact gives_pick rfl h11 ⟨Below.refl _ _, rfl⟩
      exact allFrom_nil
    intro f_ w_ hx_ hf_
    have h5 : f_ 5 = (.pointer (some ⟨w.heap.size, 0, none⟩)) := hf_ 0 5 _ (by decide) rfl rfl
    have h6 : f_ 6 = (.slice A l.length c) := hf_ 1 6 _ (by decide) rfl rfl
    have h7 : f_ 7 = (.pointer (some ⟨w.heap.size, 1, none⟩)) := hf_ 2 7 _ (by decide) rfl rfl
    have h8 : f_ 8 = (.slice A' l'.length c') := hf_ 3 8 _ (by decide) rfl rfl
    have h9 : f_ 9 = (.bool true) := hf_ 4 9 _ (by decide) rfl rfl
    have h10 : f_ 10 = (.bool false) := hf_ 5 10 _ (by decide) rfl rfl
    have h11 : f_ 11 = (.bool false) := hf_ 6 11 _ (by decide) rfl rfl
    have h21 : f_ 21 = (.bool false) := hf_ 16 21 _ (by decide) rfl rfl
    simp only [mix, List.drop_succ_cons, List.drop_zero, h5, h6, h7, h8, h9, h10, h11, h21]
    clear h5 h6 h7 h8 h9 h10 h11 h21
    clear hf_
    go_wp2_with fail
    go_ret
    exact ⟨by rw [he]; rfl, bx_trans hb0 hx_⟩
  | false =>
    refine wp_flow (by kernel_rfl) [0, 1, 0, 4, 15, 31, 63, 127, 127, 383, 1023, 127, 127, 4223, 16383, 32767, 65535, 131071] 17 [false, false, false, false, false, true, true, true, true, true, true, true, true, true, true, true, true, true, true, true, true, true] (by kernel_rfl) (by decide) (by kernel_rfl) [FP.eq (.pointer (some ⟨w.heap.size, 0, none⟩)), FP.eq (.slice A l.length c), FP.eq (.pointer (some ⟨w.heap.size, 1, none⟩)), FP.eq (.slice A' l'.length c'), FP.eq (.bool false), FP.eq (.bool true), FP.eq (.bool true), FP.eq (.int .i64 wide), FP.eq (.pointer (some ⟨w.heap.size, 0, none⟩)), FP.eq (.slice A l.length c), FP.eq (.agg ((narL wide l).map cb).toArray), FP.eq (.int .i64 wide), FP.eq (.pointer (some ⟨w.heap.size, 1, none⟩)), FP.eq (.slice A' l'.length c'), FP.eq (.agg ((narL wide l').map cb).toArray), FP.eq (.bool (narL wide l == narL wide l')), FP.eq (.bool (narL wide l == narL wide l'))] ?_ ?_
    · refine allFrom_cons ?_ ?_
      · intro a_ w_ hk_
        have h3 : a_.eval (.tmp 3) = .pointer (some ⟨w.heap.size, 0, none⟩) := hk_.old 3 (by kernel_rfl)
        have hx_ := hk_.ext
        clear hk_
        refine flow_plain rfl ?_
        unfold gives
        have hc_ : ∀ v, a_.eval (.const v) = v := fun _ => rfl
        have hn_ : ∀ f, a_.eval (.func f) = .func (.func f) #[] #[] := fun _ => rfl
        generalize a_.eval = ρ_ at *
        go_simp
        exact ⟨Below.refl _ _, rfl⟩
      refine allFrom_cons ?_ ?_
      · intro a_ w_ hk_
        have h5 : a_.eval (.tmp 5) = (.pointer (some ⟨w.heap.size, 0, none⟩)) := hk_.got 0 5 _ (by kernel_rfl) rfl rfl
        have hx_ := hk_.ext
        clear hk_
        refine flow_plain rfl ?_
        unfold gives
        have hc_ : ∀ v, a_.eval (.const v) = v := fun _ => rfl
        have hn_ : ∀ f, a_.eval (.func f) = .func (.func f) #[] #[] := fun _ => rfl
        have hcell := (hx_.cell (p := ⟨w.heap.size, 0, none⟩) hg0).trans c0
        generalize a_.eval = ρ_ at *
        go_simp
        exact ⟨Below.refl _ _, rfl⟩
      refine allFrom_cons ?_ ?_
      · intro a_ w_ hk_
        have h3 : a_.eval (.tmp 3) = .pointer (some ⟨w.heap.size, 0, none⟩) := hk_.old 3 (by kernel_rfl)
        have hx_ := hk_.ext
        clear hk_
        refine flow_plain rfl ?_
        unfold gives
        have hc_ : ∀ v, a_.eval (.const v) = v := fun _ => rfl
        have hn_ : ∀ f, a_.eval (.func f) = .func (.func f) #[] #[] := fun _ => rfl
        generalize a_.eval = ρ_ at *
        go_simp
        exact ⟨Below.refl _ _, rfl⟩
      refine allFrom_cons ?_ ?_
      · intro a_ w_ hk_
        have h7 : a_.eval (.tmp 7) = (.pointer (some ⟨w.heap.size, 1, none⟩)) := hk_.got 2 7 _ (by kernel_rfl) rfl rfl
        have hx_ := hk_.ext
        clear hk_
        refine flow_plain rfl ?_
        unfold gives
        have hc_ : ∀ v, a_.eval (.const v) = v := fun _ => rfl
        have hn_ : ∀ f, a_.eval (.func f) = .func (.func f) #[] #[] := fun _ => rfl
        have hcell := (hx_.cell (p := ⟨w.heap.size, 1, none⟩) hg0).trans c1
        generalize a_.eval = ρ_ at *
        go_simp
        exact ⟨Below.refl _ _, rfl⟩
      refine allFrom_cons ?_ ?_
      · intro a_ w_ hk_
        have h6 : a_.eval (.tmp 6) = (.slice A l.length c) := hk_.got 1 6 _ (by kernel_rfl) rfl rfl
        have h8 : a_.eval (.tmp 8) = (.slice A' l'.length c') := hk_.got 3 8 _ (by kernel_rfl) rfl rfl
        have hx_ := hk_.ext
        clear hk_
        refine flow_plain rfl ?_
        unfold gives
        have hc_ : ∀ v, a_.eval (.const v) = v := fun _ => rfl
        have hn_ : ∀ f, a_.eval (.func f) = .func (.func f) #[] #[] := fun _ => rfl
        generalize a_.eval = ρ_ at *
        go_simp
        exact (Equal_any w_ (HR.out.below ((hb0.trans (hx_.mono hb0.size)).mono hB)) (HR'.out.below ((hb0.trans (hx_.mono hb0.size)).mono hB'))).mono fun e w' hh => ⟨_, hh.1, hh.2, by rw [he]; rfl⟩
      refine allFrom_cons ?_ ?_
      · intro a_ w_ hk_
        have h9 : a_.eval (.tmp 9) = (.bool false) := hk_.got 4 9 _ (by kernel_rfl) rfl rfl
        have hx_ := hk_.ext
        clear hk_
        refine flow_plain rfl ?_
        unfold gives
        have hc_ : ∀ v, a_.eval (.const v) = v := fun _ => rfl
        have hn_ : ∀ f, a_.eval (.func f) = .func (.func f) #[] #[] := fun _ => rfl
        generalize a_.eval = ρ_ at *
        go_simp
        exact ⟨Below.refl _ _, rfl⟩
      refine allFrom_cons ?_ ?_
      · intro a_ w_ hk_
        have h10 : a_.eval (.tmp 10) = (.bool true) := hk_.got 5 10 _ (by kernel_rfl) rfl rfl
        have hx_ := hk_.ext
        clear hk_
        refine flow_plain rfl ?_
        exact gives_move rfl ⟨Below.refl _ _, h10⟩
      refine allFrom_cons ?_ ?_
      · intro a_ w_ hk_
        have h0 : a_.eval (.tmp 0) = .int .i64 wide := hk_.old 0 (by kernel_rfl)
        have hg_ : a_.eval (.tmp 11) = .bool true := hk_.got 6 11 _ (by kernel_rfl) rfl rfl
        have hy_ := hk_.want 6 _ 11 true rfl rfl hg_
        have hx_ := hk_.ext
        clear hk_
        refine flow_want rfl hy_ ?_
        exact gives_move rfl ⟨Below.refl _ _, h0⟩
      refine allFrom_cons ?_ ?_
      · intro a_ w_ hk_
        have h3 : a_.eval (.tmp 3) = .pointer (some ⟨w.heap.size, 0, none⟩) := hk_.old 3 (by kernel_rfl)
        have hg_ : a_.eval (.tmp 11) = .bool true := hk_.got 6 11 _ (by kernel_rfl) rfl rfl
        have hy_ := hk_.want 6 _ 11 true rfl rfl hg_
        have hx_ := hk_.ext
        clear hk_
        refine flow_want rfl hy_ ?_
        unfold gives
        have hc_ : ∀ v, a_.eval (.const v) = v := fun _ => rfl
        have hn_ : ∀ f, a_.eval (.func f) = .func (.func f) #[] #[] := fun _ => rfl
        clear hy_ hg_
        generalize a_.eval = ρ_ at *
        go_simp
        exact ⟨Below.refl _ _, rfl⟩
      refine allFrom_cons ?_ ?_
      · intro a_ w_ hk_
        have h13 : a_.eval (.tmp 13) = (.pointer (some ⟨w.heap.size, 0, none⟩)) := hk_.got 8 13 _ (by kernel_rfl) rfl rfl
        have hg_ : a_.eval (.tmp 11) = .bool true := hk_.got 6 11 _ (by kernel_rfl) rfl rfl
        have hy_ := hk_.want 6 _ 11 true rfl rfl hg_
        have hx_ := hk_.ext
        clear hk_
        refine flow_want rfl hy_ ?_
        unfold gives
        have hc_ : ∀ v, a_.eval (.const v) = v := fun _ => rfl
        have hn_ : ∀ f, a_.eval (.func f) = .func (.func f) #[] #[] := fun _ => rfl
        clear hy_ hg_
        have hcell := (hx_.cell (p := ⟨w.heap.size, 0, none⟩) hg0).trans c0
        generalize a_.eval = ρ_ at *
        go_simp
        exact ⟨Below.refl _ _, rfl⟩
      refine allFrom_cons ?_ ?_
      · intro a_ w_ hk_
        have h12 : a_.eval (.tmp 12) = (.int .i64 wide) := hk_.got 7 12 _ (by kernel_rfl) rfl rfl
        have h14 : a_.eval (.tmp 14) = (.slice A l.length c) := hk_.got 9 14 _ (by kernel_rfl) rfl rfl
        have hg_ : a_.eval (.tmp 11) = .bool true := hk_.got 6 11 _ (by kernel_rfl) rfl rfl
        have hy_ := hk_.want 6 _ 11 true rfl rfl hg_
        have hx_ := hk_.ext
        clear hk_
        refine flow_want rfl hy_ ?_
        unfold gives
        have hc_ : ∀ v, a_.eval (.const v) = v := fun _ => rfl
        have hn_ : ∀ f, a_.eval (.func f) = .func (.func f) #[] #[] := fun _ => rfl
        clear hy_ hg_
        generalize a_.eval = ρ_ at *
        go_simp
        exact (narrow_any w_ (HL.out.below (bx_trans hb0 hx_)) wide (HR.out.below ((hb0.trans (hx_.mono hb0.size)).mono hB)) (by have := hb0.size; have := hx_.size; omega) hlc ht).mono fun e w' hh => ⟨_, hh.1, hh.2, rfl⟩
      refine allFrom_cons ?_ ?_
      · intro a_ w_ hk_
        have h0 : a_.eval (.tmp 0) = .int .i64 wide := hk_.old 0 (by kernel_rfl)
        have hg_ : a_.eval (.tmp 11) = .bool true := hk_.got 6 11 _ (by kernel_rfl) rfl rfl
        have hy_ := hk_.want 6 _ 11 true rfl rfl hg_
        have hx_ := hk_.ext
        clear hk_
        refine flow_want rfl hy_ ?_
        exact gives_move rfl ⟨Below.refl _ _, h0⟩
      refine allFrom_cons ?_ ?_
      · intro a_ w_ hk_
        have h3 : a_.eval (.tmp 3) = .pointer (some ⟨w.heap.size, 0, none⟩) := hk_.old 3 (by kernel_rfl)
        have hg_ : a_.eval (.tmp 11) = .bool true := hk_.got 6 11 _ (by kernel_rfl) rfl rfl
        have hy_ := hk_.want 6 _ 11 true rfl rfl hg_
        have hx_ := hk_.ext
        clear hk_
        refine flow_want rfl hy_ ?_
        unfold gives
        have hc_ : ∀ v, a_.eval (.const v) = v := fun _ => rfl
        have hn_ : ∀ f, a_.eval (.func f) = .func (.func f) #[] #[] := fun _ => rfl
        clear hy_ hg_
        generalize a_.eval = ρ_ at *
        go_simp
        exact ⟨Below.refl _ _, rfl⟩
      refine allFrom_cons ?_ ?_
      · intro a_ w_ hk_
        have h17 : a_.eval (.tmp 17) = (.pointer (some ⟨w.heap.size, 1, none⟩)) := hk_.got 12 17 _ (by kernel_rfl) rfl rfl
        have hg_ : a_.eval (.tmp 11) = .bool true := hk_.got 6 11 _ (by kernel_rfl) rfl rfl
        have hy_ := hk_.want 6 _ 11 true rfl rfl hg_
        have hx_ := hk_.ext
        clear hk_
        refine flow_want rfl hy_ ?_
        unfold gives
        have hc_ : ∀ v, a_.eval (.const v) = v := fun _ => rfl
        have hn_ : ∀ f, a_.eval (.func f) = .func (.func f) #[] #[] := fun _ => rfl
        clear hy_ hg_
        have hcell := (hx_.cell (p := ⟨w.heap.size, 1, none⟩) hg0).trans c1
        generalize a_.eval = ρ_ at *
        go_simp
        exact ⟨Below.refl _ _, rfl⟩
      refine allFrom_cons ?_ ?_
      · intro a_ w_ hk_
        have h16 : a_.eval (.tmp 16) = (.int .i64 wide) := hk_.got 11 16 _ (by kernel_rfl) rfl rfl
        have h18 : a_.eval (.tmp 18) = (.slice A' l'.length c') := hk_.got 13 18 _ (by kernel_rfl) rfl rfl
        have hg_ : a_.eval (.tmp 11) = .bool true := hk_.got 6 11 _ (by kernel_rfl) rfl rfl
        have hy_ := hk_.want 6 _ 11 true rfl rfl hg_
        have hx_ := hk_.ext
        clear hk_
        refine flow_want rfl hy_ ?_
        unfold gives
        have hc_ : ∀ v, a_.eval (.const v) = v := fun _ => rfl
        have hn_ : ∀ f, a_.eval (.func f) = .func (.func f) #[] #[] := fun _ => rfl
        clear hy_ hg_
        generalize a_.eval = ρ_ at *
        go_simp
        exact (narrow_any w_ (HL.out.below (bx_trans hb0 hx_)) wide (HR'.out.below ((hb0.trans (hx_.mono hb0.size)).mono hB')) (by have := hb0.size; have := hx_.size; omega) hlc' ht').mono fun e w' hh => ⟨_, hh.1, hh.2, rfl⟩
      refine allFrom_cons ?_ ?_
      · intro a_ w_ hk_
        have h15 : a_.eval (.tmp 15) = (.agg ((narL wide l).map cb).toArray) := hk_.got 10 15 _ (by kernel_rfl) rfl rfl
        have h19 : a_.eval (.tmp 19) = (.agg ((narL wide l').map cb).toArray) := hk_.got 14 19 _ (by kernel_rfl) rfl rfl
        have hg_ : a_.eval (.tmp 11) = .bool true := hk_.got 6 11 _ (by kernel_rfl) rfl rfl
        have hy_ := hk_.want 6 _ 11 true rfl rfl hg_
        have hx_ := hk_.ext
        clear hk_
        refine flow_want rfl hy_ ?_
        unfold gives
        have hc_ : ∀ v, a_.eval (.const v) = v := fun _ => rfl
        have hn_ : ∀ f, a_.eval (.func f) = .func (.func f) #[] #[] := fun _ => rfl
        clear hy_ hg_
        generalize a_.eval = ρ_ at *
        go_simp
        exact ⟨Below.refl _ _, rfl⟩
      refine allFrom_cons ?_ ?_
      · intro a_ w_ hk_
        have h11 : a_.eval (.tmp 11) = (.bool true) := hk_.got 6 11 _ (by kernel_rfl) rfl rfl
        have h20 : a_.eval (.tmp 20) = (.bool (narL wide l == narL wide l')) := hk_.got 15 20 _ (by kernel_rfl) rfl rfl
        have hx_ := hk_.ext
        clear hk_
        refine flow_plain rfl ?_
        exact gives_pick rfl h11 ⟨Below.refl _ _, h20⟩
      exact allFrom_nil
    intro f_ w_ hx_ hf_
    have h5 : f_ 5 = (.pointer (some ⟨w.heap.size, 0, none⟩)) := hf_ 0 5 _ (by decide) rfl rfl
    have h6 : f_ 6 = (.slice A l.length c) := hf_ 1 6 _ (by decide) rfl rfl
    have h7 : f_ 7 = (.pointer (some ⟨w.heap.size, 1, none⟩)) := hf_ 2 7 _ (by decide) rfl rfl
    have h8 : f_ 8 = (.slice A' l'.length c') := hf_ 3 8 _ (by decide) rfl rfl
    have h9 : f_ 9 = (.bool false) := hf_ 4 9 _ (by decide) rfl rfl
    have h10 : f_ 10 = (.bool true) := hf_ 5 10 _ (by decide) rfl rfl
    have h11 : f_ 11 = (.bool true) := hf_ 6 11 _ (by decide) rfl rfl
    have h12 : f_ 12 = (.int .i64 wide) := hf_ 7 12 _ (by decide) rfl rfl
    have h13 : f_ 13 = (.pointer (some ⟨w.heap.size, 0, none⟩)) := hf_ 8 13 _ (by decide) rfl rfl
    have h14 : f_ 14 = (.slice A l.length c) := hf_ 9 14 _ (by decide) rfl rfl
    have h15 : f_ 15 = (.agg ((narL wide l).map cb).toArray) := hf_ 10 15 _ (by decide) rfl rfl
    have h16 : f_ 16 = (.int .i64 wide) := hf_ 11 16 _ (by decide) rfl rfl
    have h17 : f_ 17 = (.pointer (some ⟨w.heap.size, 1, none⟩)) := hf_ 12 17 _ (by decide) rfl rfl
    have h18 : f_ 18 = (.slice A' l'.length c') := hf_ 13 18 _ (by decide) rfl rfl
    have h19 : f_ 19 = (.agg ((narL wide l').map cb).toArray) := hf_ 14 19 _ (by decide) rfl rfl
    have h20 : f_ 20 = (.bool (narL wide l == narL wide l')) := hf_ 15 20 _ (by decide) rfl rfl
    have h21 : f_ 21 = (.bool (narL wide l == narL wide l')) := hf_ 16 21 _ (by decide) rfl rfl
    simp only [mix, List.drop_succ_cons, List.drop_zero, h5, h6, h7, h8, h9, h10, h11, h12, h13, h14, h15, h16, h17, h18, h19, h20, h21]
    clear h5 h6 h7 h8 h9 h10 h11 h12 h13 h14 h15 h16 h17 h18 h19 h20 h21
    clear hf_
    go_wp2_with fail
    go_ret
    exact ⟨by rw [he]; rfl, bx_trans hb0 hx_⟩
end
section
open Go.RowKit
set_option linter.unusedVariables false
abbrev tU8 : Nat := 5
abbrev tBy : Nat := 29
abbrev tBB : Nat := 53
theorem elBy : ElT Tryd.prog tBB tBy 1 24 (Value.slice none 0 0).cells := elT_of (z := .slice none 0 0) Tryd.underlying53 (by kernel_rfl) rfl (by decide)
theorem ownOther {w w1 : World} {base e size n g t : Nat} {v : Value} {xs : List Value} {cs : Array Value} (h : w.ownsRow base e size v n xs) (hp : Put w w1 g t cs) (hne : v.ownBlock ≠ some g) : w1.ownsRow base e size v n xs :=
  h.kept (row := some g) ⟨hp.os, hp.tape, hp.output, Nat.le_of_eq hp.size.symm, fun k _ hk => hp.oth k (fun e => hk (by rw [e]))⟩ (.inr hne)
/-- An own row is as it was when another kind of row has grown. -/
theorem own_grow {w w1 : World} {base base' e e' size size' n n' : Nat} {v v' : Value} {xs xs' : List Value} (h : w.ownsRow base e size v n xs) (h' : w.ownsRow base' e' size' v' n' xs') (hg : w.grownBy w1 v'.ownBlock) (hne : e ≠ e') : w1.ownsRow base e size v n xs := by
  refine ⟨h.1, h.2.imp id ?_⟩
  rintro ⟨g, cap, cur, h1, h2, h3, h4⟩
  refine ⟨g, cap, cur, h1, h2, (hg.block g (Array.getElem?_eq_some_iff.1 h3).1 (fun e => ?_)).trans h3, h4⟩
  exact own_ne h' h3 (fun cur' hx => by injection hx with _ hx; exact hne hx) e.symm
/-- Rows that lie in blocks of their own. -/
def Owns (w : World) (B : Nat) (vs : List Value) (rs : List (List UInt8)) : Prop := ∀ (k : Nat) (v : Value) (l : List UInt8), vs[k]? = some v → rs[k]? = some l → OwnB w B v l
/-- What is gathered: the rows so far, in a variable. -/
structure RC (w : World) (B gl : Nat) (vo : Value) (vs : List Value) (rs : List (List UInt8)) : Prop where
  bl : Blk w gl tBB #[vo]
  hB : B ≤ gl
  own : w.ownsRow B tBy 1 vo rs.length vs
  rd : Owns w B vs rs
theorem Owns.below {w w' : World} {B : Nat} {vs : List Value} {rs : List (List UInt8)} (h : Owns w B vs rs) (hb : Below w.heap.size w w') : Owns w' B vs rs := fun k v l h1 h2 => (h k v l h1 h2).below hb
theorem RC.below {w w' : World} {B gl : Nat} {vo : Value} {vs : List Value} {rs : List (List UInt8)} (h : RC w B gl vo vs rs) (hb : Below w.heap.size w w') : RC w' B gl vo vs rs := ⟨h.bl.below hb h.bl.lt, h.hB, own_keep h.own hb, h.rd.below hb⟩
theorem Owns.snoc {w : World} {B : Nat} {vs : List Value} {rs : List (List UInt8)} (h : Owns w B vs rs) (hl : vs.length = rs.length) {v : Value} {b : List UInt8} (hb : OwnB w B v b) : Owns w B (vs ++ [v]) (rs ++ [b]) := by
  intro k u l h1 h2
  rcases Nat.lt_trichotomy k vs.length with hk | hk | hk
  · rw [List.getElem?_append_left hk] at h1
    rw [List.getElem?_append_left (by omega)] at h2
    exact h k u l h1 h2
  · subst hk
    rw [List.getElem?_append_right (Nat.le_refl _)] at h1
    rw [hl, List.getElem?_append_right (Nat.le_refl _)] at h2
    simp at h1 h2
    subst h1
    subst h2
    exact hb
  · rw [List.getElem?_eq_none (by rw [List.length_append]; simp; omega)] at h1
    cases h1
theorem RC.len {w : World} {B gl : Nat} {vo : Value} {vs : List Value} {rs : List (List UInt8)} (h : RC w B gl vo vs rs) : vs.length = rs.length := by
  have := h.own.1
  rw [this, Nat.mul_one]
/-- A call that gathers one row more: what else there is, is as it was. -/
structure RGo (w w' : World) (B gl : Nat) (vo : Value) (vo' : Value) (vs' : List Value) (rs' : List (List UInt8)) : Prop where
  rc : RC w' B gl vo' vs' rs'
  below : Below B w w'
  keep : ∀ k, k < w.heap.size → k ≠ gl → vo.ownBlock ≠ some k → w'.heap[k]? = w.heap[k]? ∧ vo'.ownBlock ≠ some k
/-- Behind an append, and the variable's turn. -/
theorem RC.app {w w1 w2 : World} {B gl : Nat} {vo vo' : Value} {vs : List Value} {rs : List (List UInt8)} (h : RC w B gl vo vs rs) (hB : B ≤ w.heap.size) {v : Value} {b : List UInt8} (hb : OwnB w B v b) (hown : w1.ownsRow B tBy 1 vo' (rs.length + 1) (vs ++ [v])) (hg : w.grownBy w1 vo.ownBlock) (hat : vo'.ownBlock = vo.ownBlock ∨ vo'.ownBlock = some w.heap.size) (hp : Put w1 w2 gl tBB #[vo']) :
    RGo w w2 B gl vo vo' (vs ++ [v]) (rs ++ [b]) := by
  have hbl1 : Blk w1 gl tBB #[vo] := (hg.block gl h.bl.lt (fun e => own_ne h.own h.bl (fun cur hx => by cases hx) e.symm)).trans h.bl
  have hne : vo'.ownBlock ≠ some gl := own_ne hown hbl1 (fun cur hx => by cases hx)
  have hrd1 : Owns w1 B vs rs := fun k u l h1 h2 => own_grow (h.rd k u l h1 h2) h.own hg (by decide)
  have hb1 : OwnB w1 B v b := own_grow hb h.own hg (by decide)
  have key : ∀ {u : Value} {l : List UInt8}, OwnB w1 B u l → OwnB w2 B u l := fun hu => ownOther hu hp (own_ne hu hbl1 (fun cur hx => by cases hx))
  refine ⟨⟨hp.blk, h.hB, ?_, ?_⟩, ?_, fun k hk hkg ho => ⟨(hp.oth k hkg).trans (hg.block k hk (fun e => ho e.symm)), ?_⟩⟩
  · have := ownOther hown hp hne
    rw [List.length_append]
    exact this
  · refine Owns.snoc (fun k u l h1 h2 => key (hrd1 k u l h1 h2)) h.len (key hb1)
  · exact ((Below.refl B w).grown hg hB (fun k hk => (h.own.lt k hk).1)).trans (hp.below h.hB)
  · rcases hat with e | e
    · rw [e]; exact ho
    · rw [e]; intro e2; injection e2 with e2; omega
theorem RGo.then {w w' w2 : World} {B gl : Nat} {vo vo' : Value} {vs' : List Value} {rs' : List (List UInt8)} (h : RGo w w' B gl vo vo' vs' rs') (hb : Below w'.heap.size w' w2) (hB : B ≤ w'.heap.size) : RGo w w2 B gl vo vo' vs' rs' :=
  ⟨h.rc.below hb, h.below.trans (hb.mono hB), fun k hk h1 h2 => ⟨(hb.block k (Nat.lt_of_lt_of_le hk h.below.size)).trans (h.keep k hk h1 h2).1, (h.keep k hk h1 h2).2⟩⟩
theorem RGo.ahead {w w1 w' : World} {B gl : Nat} {vo vo' : Value} {vs' : List Value} {rs' : List (List UInt8)} (hb : Below w.heap.size w w1) (hB : B ≤ w.heap.size) (h : RGo w1 w' B gl vo vo' vs' rs') : RGo w w' B gl vo vo' vs' rs' :=
  ⟨h.rc, (hb.mono hB).trans h.below, fun k hk h1 h2 => ⟨(h.keep k (Nat.lt_of_lt_of_le hk hb.size) h1 h2).1.trans (hb.block k hk), (h.keep k (Nat.lt_of_lt_of_le hk hb.size) h1 h2).2⟩⟩
/-- What the closure keeps. -/
theorem RGo.blk {w w' : World} {B gl : Nat} {vo vo' : Value} {vs vs' : List Value} {rs rs' : List (List UInt8)} (h : RGo w w' B gl vo vo' vs' rs') (hC : RC w B gl vo vs rs) {k t : Nat} {cs : Array Value} (hb : Blk w k t cs) (h1 : t ≠ tBB) (h2 : t ≠ tBy) : Blk w' k t cs := by
  refine (h.keep k hb.lt (fun e => ?_) (own_ne hC.own hb (fun cur hx => by injection hx with _ hx; exact h2 hx))).1.trans hb
  subst e
  have h3 := hC.bl
  unfold Blk at h3 hb
  rw [hb] at h3
  injection h3 with h3
  injection h3 with _ h3
  exact h1 h3
theorem RGo.own {w w' : World} {B gl : Nat} {vo vo' : Value} {vs vs' : List Value} {rs rs' : List (List UInt8)} (h : RGo w w' B gl vo vo' vs' rs') (hC : RC w B gl vo vs rs) {base e size n : Nat} {v : Value} {xs : List Value} (ho : w.ownsRow base e size v n xs) (h1 : e ≠ tBB) (h2 : e ≠ tBy) : w'.ownsRow base e size v n xs := by
  refine ⟨ho.1, ho.2.imp id ?_⟩
  rintro ⟨g', cap, cur, e1, hb, hh, hr⟩
  exact ⟨g', cap, cur, e1, hb, h.blk hC (t := e) hh h1 h2, hr⟩
end
section
open Go.RowKit
set_option linter.unusedVariables false
theorem RC.put {w w2 : World} {B gl : Nat} {vo : Value} {vs : List Value} {rs : List (List UInt8)} (h : RC w B gl vo vs rs) {g t : Nat} {c0 c1 : Array Value} (hb : Blk w g t c0) (hp : Put w w2 g t c1) (h1 : t ≠ tBB) (h2 : t ≠ tBy) (h3 : t ≠ tU8) : RC w2 B gl vo vs rs := by
  have hne : gl ≠ g := by
    intro e
    subst e
    have h4 := h.bl
    unfold Blk at h4 hb
    rw [hb] at h4
    injection h4 with h4
    injection h4 with _ h4
    exact h1 h4
  exact ⟨hp.other h.bl hne, h.hB, ownOther h.own hp (own_ne h.own hb (fun cur hx => by injection hx with _ hx; exact h2 hx)), fun k v l q1 q2 => ownOther (h.rd k v l q1 q2) hp (own_ne (h.rd k v l q1 q2) hb (fun cur hx => by injection hx with _ hx; exact h3 hx))⟩
theorem RGo.thenP {w w' w2 : World} {B gl : Nat} {vo vo' : Value} {vs' : List Value} {rs' : List (List UInt8)} (h : RGo w w' B gl vo vo' vs' rs') {g t : Nat} {c0 c1 : Array Value} (hb : Blk w' g t c0) (hp : Put w' w2 g t c1) (h1 : t ≠ tBB) (h2 : t ≠ tBy) (h3 : t ≠ tU8) (hg : w.heap.size ≤ g) (hB : B ≤ g) : RGo w w2 B gl vo vo' vs' rs' :=
  ⟨h.rc.put hb hp h1 h2 h3, h.below.trans (hp.below hB), fun k hk q1 q2 => ⟨(hp.oth k (by omega)).trans (h.keep k hk q1 q2).1, (h.keep k hk q1 q2).2⟩⟩
set_option maxRecDepth 100000 in
set_option maxHeartbeats 1000000 in
theorem rows1_any (w : World) {w0 : World} (hL : Laid w0) (h00 : Below w0.heap.size w0 w) {B gl gs : Nat} (hB0 : w0.heap.size ≤ B) (hBw : B ≤ w.heap.size) (wide : Int) {vo : Value} {vs : List Value} {rs : List (List UInt8)} (hC : RC w B gl vo vs rs) (hs : Blk w gs 3 #[.int .i64 wide]) {v : Value} {b : List UInt8} (hb : OwnB w B v b) (hlen : b.length ≤ 800000000) (hn : rs.length + 1 ≤ 1000000) :
    Calls Tryd.prog 28 #[v, .pointer (some ⟨gl, 0, none⟩), .pointer (some ⟨gs, 0, none⟩)] w fun e w' => e = .returned (.agg ((narL wide b).map cb).toArray) ∧ ∃ vo', RGo w w' B gl vo vo' (vs ++ [v]) (rs ++ [b]) := by
  have HL := hid hL
  have HC := hid hC
  have HB := hid hb
  have HS := hid hs
  have H00 := hid h00
  have hgl := hC.bl.lt
  have hgs := hs.lt
  obtain ⟨Ao, co, rfl, _, _, _⟩ := own_form hC.own
  obtain ⟨Ab, cb', rfl, hcb, _, _⟩ := own_form hb
  have hlv := hC.len
  have h63 : rs.length + 1 ≤ maxLen := by unfold maxLen; omega
  have hby : (rs.length + 1) * 24 ≤ 140737488355328 := by omega
  have hone : ∀ u ∈ [Value.slice Ab b.length cb'], u.oneCell' = true := by intro u hu; simp at hu; subst hu; rfl
  clear hL hC hb hs h00
  go_enter Tryd.func28, Tryd.ntmps28
  go_wp2_with (first
    | (refine wpList_alloc rfl _ rfl zeroH ?_; intro g4 w4 hg4 hg4' hblk4 hb4; have c0 : w4.cell? ⟨gl, 0, none⟩ = some (.slice Ao rs.length co) := (hb4.cell (p := ⟨gl, 0, none⟩) hgl).trans (HC.out.bl.cell 0); have hC5 := HC.out.below (bx_alloc hb4 (.cells #[.slice Ab b.length cb'] tBy)); have hB5 := HB.out.below (bx_alloc hb4 (.cells #[.slice Ab b.length cb'] tBy)); have hS5 := HS.out.below (bx_alloc hb4 (.cells #[.slice Ab b.length cb'] tBy)) HS.out.lt; have hx5 : Rd (w4.alloc (.cells #[.slice Ab b.length cb'] tBy)) (w4.alloc (.cells #[.slice Ab b.length cb'] tBy)).heap.size (some ⟨w4.heap.size, 0, none⟩) [.slice Ab b.length cb'] := rd_of_row (heap_new rfl) rfl; have hw5 : B ≤ (w4.alloc (.cells #[.slice Ab b.length cb'] tBy)).heap.size := (by have := hb4.size; simp; omega))
    | (at_builtin; refine wpList_app rfl _ _ _ rfl _ rfl _ _ _ rfl elBy hC5.own hx5 rfl hone h63 hby hw5 ?_; intro v1 w6 hown6 hg6 hat6; obtain ⟨A6, c6, rfl, _, _, _⟩ := own_form hown6; have hbl6 := (hg6.block gl hC5.bl.lt (fun e => own_ne hC5.own hC5.bl (fun cur hx => by cases hx) e.symm)).trans hC5.bl; have c06 := Blk.cell hbl6 0; have f06 := Blk.frozen hbl6 0; have hrg := hC5.app hw5 hB5 hown6 hg6 hat6 (setCell_put hbl6 (i := 0) (.slice A6 (rs.length + 1) c6)); have hs7 := hrg.blk hC5 hS5 (by decide) (by decide); have cs7 := hs7.cell 0))
  generalize w6.setCell ⟨gl, 0, none⟩ (.slice A6 (rs.length + 1) c6) = w7 at *
  have hb5 : Below w.heap.size w (w4.alloc (.cells #[.slice Ab b.length cb'] tBy)) := bx_alloc hb4 _
  have hg7 := RGo.ahead hb5 hBw hrg
  have hB7 : OwnB w7 B (.slice Ab b.length cb') b := hrg.own hC5 hB5 (by decide) (by decide)
  have hz7 := hrg.blk hC5 (hblk4.below (bx_alloc (Below.refl _ w4) (.cells #[.slice Ab b.length cb'] tBy)) hg4') (by decide) (by decide)
  obtain ⟨A7, c7, e7, hc7, hr7⟩ := hB7.rd
  injection e7 with e1 e2 e3
  subst e1
  subst e3
  refine (narrow_any w7 (HL.out.below (H00.out.trans (hg7.below.mono hB0))) wide hr7 (Nat.le_refl _) hc7 hlen).mono ?_
  rintro e w8 ⟨rfl, hb8⟩
  have hg8 := hg7.then hb8 (Nat.le_trans hBw hg7.below.size)
  have hz8 := hz7.below hb8 hz7.lt
  have hlen := narL_len wide b
  obtain ⟨X, hX⟩ : ∃ X, X = narL wide b := ⟨_, rfl⟩
  rw [← hX] at hlen ⊢
  have HX := hid hX
  have HG8 := hid hg8
  clear hX hg8 hrg hg7 c0 cs7 hs7 c06 f06 hbl6 hown6 hg6 hat6 hC5 hB5 hS5 hx5 hr7 hB7
  go_wp2_with (refine wpList_store_agg rfl _ _ _ rfl _ _ rfl (X.map cb).toArray rfl (aggHS hlen) hz8 (szH hlen) (one_cbA X) ?_; intro w9 hput; simp only [Act.put])
  have hg9 := HG8.out.thenP hz8 hput (by decide) (by decide) (by decide) hg4 (Nat.le_trans hBw hg4)
  rw [splH hlen] at hput
  exact bodyPost_ret (results_agg (cs := X.map cb) rfl rfl (aggHL hlen) (blk_cells hput.blk)) rfl ⟨by rw [HX.out], _, hg9⟩
end
section
open Go.RowKit
set_option linter.unusedVariables false
/-- Which side an entry lies on, from the top. -/
def flg (n i : Nat) : List Bool :=
  if h : n ≤ 1 then [] else if i < splitN n then true :: flg (splitN n) i else false :: flg (n - splitN n) (i - splitN n)
termination_by n
decreasing_by
  · exact split_lt (by omega)
  · have := split_pos (n := n) (by omega)
    omega
theorem flg_no {n : Nat} (i : Nat) (h : n ≤ 1) : flg n i = [] := by
  rw [flg, dif_pos h]
theorem flg_true {n i : Nat} (h : 1 < n) (hi : i < splitN n) : flg n i = true :: flg (splitN n) i := by
  rw [flg, dif_neg (by omega), if_pos hi]
theorem flg_false {n i : Nat} (h : 1 < n) (hi : ¬ i < splitN n) : flg n i = false :: flg (n - splitN n) (i - splitN n) := by
  rw [flg, dif_neg (by omega), if_neg hi]
theorem flg_len : ∀ (K n i : Nat), n ≤ 2 ^ K → (flg n i).length ≤ K := by
  intro K
  induction K with
  | zero =>
    intro n i h
    rw [flg_no i (by simpa using h)]
    exact Nat.le_refl 0
  | succ K ih =>
    intro n i h
    by_cases hn : n ≤ 1
    · rw [flg_no i hn]
      exact Nat.zero_le _
    · obtain ⟨J, hJ, h1, h2⟩ := split_pow (n := n) (by omega)
      have hJK : J ≤ K := by
        have := (Nat.pow_lt_pow_iff_right (by decide : 1 < 2)).1 (Nat.lt_of_lt_of_le h1 h)
        omega
      have hp : 2 ^ J ≤ 2 ^ K := Nat.pow_le_pow_right (by decide) hJK
      have hpp : 2 ^ (J + 1) = 2 * 2 ^ J := by rw [Nat.pow_succ, Nat.mul_comm]
      by_cases hi : i < splitN n
      · rw [flg_true (by omega) hi]
        have := ih (splitN n) i (by omega)
        simp
        omega
      · rw [flg_false (by omega) hi]
        have := ih (n - splitN n) (i - splitN n) (by omega)
        simp
        omega
/-- A step's row. -/
def rowOf (f : Bool) (h p : List UInt8) : List UInt8 := if f then 1 :: (h ++ p) else 1 :: (p ++ h)
def rstep (wide : Int) (s : List (List UInt8) × List UInt8) (x : Bool × List UInt8) : List (List UInt8) × List UInt8 := (s.1 ++ [rowOf x.1 s.2 x.2], narL wide (rowOf x.1 s.2 x.2))
/-- Behind the first j steps. -/
def rowsTo (wide : Int) (fs : List Bool) (en : List UInt8) (path : List (List UInt8)) (j : Nat) : List (List UInt8) × List UInt8 :=
  ((fs.reverse.zip path).take j).foldl (rstep wide) ([0 :: en], narL wide (0 :: en))
def rowsL (wide : Int) (fs : List Bool) (en : List UInt8) (path : List (List UInt8)) : List (List UInt8) × List UInt8 :=
  (fs.reverse.zip path).foldl (rstep wide) ([0 :: en], narL wide (0 :: en))
theorem rowsTo_zero (wide : Int) (fs : List Bool) (en : List UInt8) (path : List (List UInt8)) : rowsTo wide fs en path 0 = ([0 :: en], narL wide (0 :: en)) := rfl
theorem rowsTo_all {wide : Int} {fs : List Bool} {en : List UInt8} {path : List (List UInt8)} (h : fs.length = path.length) : rowsTo wide fs en path path.length = rowsL wide fs en path := by
  unfold rowsTo rowsL
  rw [List.take_of_length_le (by rw [List.length_zip, List.length_reverse, h, Nat.min_self]; exact Nat.le_refl _)]
theorem rowsTo_succ {wide : Int} {fs : List Bool} {en : List UInt8} {path : List (List UInt8)} (h : fs.length = path.length) {j : Nat} (hj : j < path.length) :
    rowsTo wide fs en path (j + 1) = rstep wide (rowsTo wide fs en path j) (fs[fs.length - 1 - j]'(by omega), path[j]) := by
  unfold rowsTo
  rw [List.take_succ_eq_append_getElem (by rw [List.length_zip, List.length_reverse, h, Nat.min_self]; exact hj), List.foldl_append, List.getElem_zip, List.getElem_reverse]
  rfl
theorem rowsTo_len {wide : Int} {fs : List Bool} {en : List UInt8} {path : List (List UInt8)} (h : fs.length = path.length) : ∀ j, j ≤ path.length → (rowsTo wide fs en path j).1.length = j + 1 := by
  intro j
  induction j with
  | zero => intro _; rfl
  | succ j ih =>
    intro hj
    rw [rowsTo_succ h (by omega)]
    show ((rowsTo wide fs en path j).1 ++ [_]).length = _
    rw [List.length_append, ih (by omega)]
    rfl
theorem rowsTo_hash {wide : Int} {fs : List Bool} {en : List UInt8} {path : List (List UInt8)} (h : fs.length = path.length) : ∀ j, j ≤ path.length → (rowsTo wide fs en path j).2.length = 32 := by
  intro j hj
  cases j with
  | zero => exact narL_len _ _
  | succ j =>
    rw [rowsTo_succ h (by omega)]
    exact narL_len _ _
def bvl (b : Bool) : Value := .bool b
theorem elBl : ElT Tryd.prog 66 4 1 1 (Value.bool false).cells := elT_of Tryd.underlying66 (by kernel_rfl) rfl (by decide)
theorem one_bvl (l : List Bool) : ∀ u ∈ l.map bvl, u.oneCell' = true := by
  intro u hu
  obtain ⟨x, _, rfl⟩ := List.mem_map.1 hu
  rfl
theorem nil_ownC (w : World) (base : Nat) (e : TypeId) (size : Nat) : w.ownsRow base e size (.slice none 0 0) 0 [] := ⟨by simp, .inl ⟨rfl, rfl⟩⟩
theorem blt0 : Tryd.prog.built tH [] = some (Value.agg (List.replicate 32 (cb 0)).toArray).cells := by kernel_rfl
theorem gives_blt0 {o : Oper} {a : Act} {w : World} {S : Value → World → Prop} (ho : o.op = .build tH #[]) (h : S (.agg (List.replicate 32 (cb 0)).toArray) w) : gives Tryd.prog o a w S :=
  gives_build tH #[] ho [] (by simp) blt0 h
theorem results_3 {P : Program} {fn : Func} {p q r : Tmp} {ty : TypeId} (h : fn.results = #[.tmp p, .cell q ty, .tmp r]) {tmps : Array Value} {w : World} {g off : Nat} {cs : List Value}
    (hq : tmps.getD q undef = .pointer (some ⟨g, off, none⟩)) (hT : AggT P ty cs.length) (hc : ∀ j v, cs[j]? = some v → w.cell? ⟨g, off + j, none⟩ = some v) :
    (results fn tmps).run P w = .ok (.tuple #[tmps.getD p undef, .agg cs.toArray, tmps.getD r undef]) w := by
  have hq' : tmps[q]?.getD undef = .pointer (some ⟨g, off, none⟩) := by simpa using hq
  simp [results, h, hq', asAddr, run_load_agg hT hc]
def zeroL : List UInt8 := List.replicate 32 0
theorem zeroL_len : zeroL.length = 32 := by simp [zeroL]
theorem zeroL_cb : (List.replicate 32 (cb 0)) = zeroL.map cb := by unfold zeroL; rw [List.map_replicate]
end
end Go.Proofs.YtgaefejblmnklaaDoor
