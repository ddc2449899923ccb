/- ShaNodes: its walk. -/
import Derived.Test.YtebabkccpbdphaaDoorShaJ
namespace Go.Proofs.YtebabkccpbdphaaDoor
open Go.RowKit
set_option linter.unusedVariables false
theorem lit_own (w : World) (base : Nat) (hb : base ≤ w.heap.size) (v : Value) : (w.alloc (.cells #[v] 5)).ownsRow base 5 1 (.slice (some ⟨w.heap.size, 0, none⟩) 1 1) 1 [v] :=
  ⟨rfl, .inr ⟨w.heap.size, 1, #[v], rfl, hb, heap_new rfl, Nat.le_refl _, by unfold maxLen; omega, rfl, rfl⟩⟩
/-- A guarded load of a whole array. -/
theorem wpList_load_aggG {P : Program} {ops : Array Oper} {rest : List Oper} {o : Oper} {a : Act} {w : World} {Q : Exit → Act → World → Prop} (hgd : Region.wanted o (yielded ops a.tmps) = true) (ty : TypeId) (x : Operand) (ho : o.op = .load ty x)
    (g off : Nat) (hx : a.eval x = .pointer (some ⟨g, off, none⟩)) (cs : List Value) (hT : AggT P ty cs.length) (hc : ∀ j v, cs[j]? = some v → w.cell? ⟨g, off + j, none⟩ = some v)
    (h : wpList P ops Q rest (a.put o.dst (.agg cs.toArray)) w) : wpList P ops Q (o :: rest) a w :=
  wpList_step fun _ hK => by
    rw [if_pos hgd]
    unfold Oper.wp execOp
    simp only [ho, hx, Instr.loadAt, Instr.sureAddr, Sem.run_bind, Sem.run_pure, Result.andThen_ok, run_load_agg hT hc]
    exact hK _ _ h
set_option maxRecDepth 100000 in
set_option maxHeartbeats 1000000 in
theorem ShaNodes_walk (w : World) (hL : Laid w) (A0 : Option Addr) (c0 : Nat) (l0 : List UInt8) (hc0 : l0.length ≤ c0) (hm0 : c0 ≤ maxLen) (hr0 : Rd w w.heap.size A0 (l0.map cb)) (x : List UInt8) (hx : x.length = 32) (y : List UInt8) (hy : y.length = 32) :
    Calls Tryd.prog 7 #[.slice A0 l0.length c0, .agg (x.map cb).toArray, .agg (y.map cb).toArray] w fun e w' => e = .returned (.bool true) ∧ Below w.heap.size w w' := by
  unfold maxLen at hm0
  have HL := hid hL
  have HR := hid hr0
  clear hL hr0
  have hA : Blk ((w.alloc (.cells (x.map cb).toArray 26)).alloc (.cells (y.map cb).toArray 26)) w.heap.size 26 (x.map cb).toArray := (Blk.new w _ _).alloc _
  have hB : Blk ((w.alloc (.cells (x.map cb).toArray 26)).alloc (.cells (y.map cb).toArray 26)) (w.heap.size + 1) 26 (y.map cb).toArray := by
    have := Blk.new (w.alloc (.cells (x.map cb).toArray 26)) 26 (y.map cb).toArray
    rwa [World.size_alloc] at this
  have hb0 : Below w.heap.size w ((w.alloc (.cells (x.map cb).toArray 26)).alloc (.cells (y.map cb).toArray 26)) := bx_alloc (bx_alloc (Below.refl _ _) _) _
  have hs0 : ((w.alloc (.cells (x.map cb).toArray 26)).alloc (.cells (y.map cb).toArray 26)).heap.size = w.heap.size + 2 := by simp
  go_enter Tryd.func7, Tryd.ntmps7
  go_wp2_with fail
  generalize hwb : (w.alloc (.cells (x.map cb).toArray 26)).alloc (.cells (y.map cb).toArray 26) = wb at *
  refine (awake_any wb (HL.out.below hb0)).mono ?_
  rintro e w1 ⟨rfl, hb1⟩
  have hA1 := hA.below hb1 (by omega)
  have hB1 := hB.below hb1 (by omega)
  have hb01 := bx_trans hb0 hb1
  have hs1 := hb1.size
  generalize hga : w.heap.size + 1 = gb at *
  clear hA hB hb0 hb1 hwb
  by_cases hbig : 200 < l0.length
  · go_wp2
    go_ret
    exact ⟨rfl, hb01⟩
  have HA1 := hid hA1
  have HB1 := hid hB1
  have HB01 := hid hb01
  have hw1 := hb01.size
  clear hA1 hB1 hb01
  obtain ⟨wc, hwc⟩ : ∃ wc, wc = w1.alloc (.cells #[.int .u8 0] 5) := ⟨_, rfl⟩
  have hown : wc.ownsRow w1.heap.size 5 1 (.slice (some ⟨w1.heap.size, 0, none⟩) 1 1) 1 [.int .u8 0] := by rw [hwc]; exact lit_own w1 _ (Nat.le_refl _) _
  have hbc : Below w1.heap.size w1 wc := by rw [hwc]; exact bx_alloc (Below.refl _ _) _
  have hrd : Rd wc w.heap.size A0 (l0.map cb) := HR.out.below (HB01.out.trans (hbc.mono hw1))
  have hlm : (l0.map cb).length = l0.length * 1 := by simp
  have h63 : 1 + l0.length ≤ maxLen := by unfold maxLen; omega
  have hby : (1 + l0.length) * 1 ≤ 140737488355328 := by omega
  have hsc := hbc.size
  rw [hwc] at hown hrd hsc
  rw [hwc] at hbc
  clear hwc
  go_wp2_with (first
    | (at_builtin; refine wpList_app rfl _ _ _ rfl _ rfl _ _ _ rfl elB8 hown hrd hlm (one_cb l0) h63 hby hsc ?_; intro v3 w3 hown3 hg3 hat3; have hB3 := own_below hbc hown hg3; have own2 := lit_own w3 w3.heap.size (Nat.le_refl _) (.int .u8 1); have hA3 := ((HA1.out.below hB3 (by omega)).alloc (.cells #[.int .u8 1] 5)); have rd2 := rd_of_row hA3 (xs := x.map cb) rfl; have hsz2 : w3.heap.size ≤ (w3.alloc (.cells #[.int .u8 1] 5)).heap.size := by simp)
    | (at_builtin; refine wpList_app rfl _ _ _ rfl _ rfl _ 32 32 rfl elB8 own2 rd2 (by simp [hx]) (one_cb x) (by unfold maxLen; omega) (by omega) hsz2 ?_; intro v4 w4 hown4 hg4 hat4; have hB4 := own_below (bx_alloc (Below.refl _ w3) (.cells #[.int .u8 1] 5)) own2 hg4; have hBB4 := (HB1.out.below hB3 (by omega)).below hB4 (by have := (HB1.out.below hB3 (by omega)).lt; omega); have rd3 := rd_of_row hBB4 (xs := y.map cb) rfl; have hsz3 := hB4.size)
    | (at_builtin; refine wpList_app rfl _ _ _ rfl _ rfl _ 32 32 rfl elB8 hown4 rd3 (by simp [hy]) (one_cb y) (by unfold maxLen; omega) (by omega) hsz3 ?_; intro v5 w5 hown5 hg5 hat5; have hB5 := own_below hB4 hown4 hg5))
  obtain ⟨A3, c3, rfl, hc3, hm3, hrd3⟩ := own_form hown3
  obtain ⟨A5, c5, rfl, hc5, hm5, hrd5⟩ := own_form hown5
  have hr3 : Rd w3 w3.heap.size A3 (((0 : UInt8) :: l0).map cb) := hrd3
  have hr5 : Rd w5 w5.heap.size A5 (((1 : UInt8) :: (x ++ y)).map cb) := by
    rw [show (((1 : UInt8) :: (x ++ y)).map cb) = [Value.int IntKind.u8 1] ++ x.map cb ++ y.map cb from by rw [List.map_cons, List.map_append]; rfl]
    exact hrd5
  have hl3 : ((0 : UInt8) :: l0).length = 1 + l0.length := by simp; omega
  have hl5 : ((1 : UInt8) :: (x ++ y)).length = 65 := by simp [hx, hy]
  have hB05 : Below w.heap.size w w5 := (HB01.out.trans (hB3.mono hw1)).trans (hB5.mono (by have := hB3.size; omega))
  have hA5 := (HA1.out.below hB3 (by omega)).below hB5 (by have := (HA1.out.below hB3 (by omega)).lt; omega)
  have hBB5 := (HB1.out.below hB3 (by omega)).below hB5 (by have := (HB1.out.below hB3 (by omega)).lt; omega)
  have hr35 := hr3.below hB5
  have hs35 := hB5.size
  clear hrd3 hrd5 hown3 hown5 hown4 hg3 hg4 hg5 hat3 hat4 hat5 rd2 rd3 own2 hA3 hBB4 hB3 hB4 hB5 hown hrd hbc hsz2 hsz3 hsc hr3 hlm h63 hby
  refine (Leaf_any w5 (HL.out.below hB05) (HR.out.below hB05) hB05.size hc0 (by omega)).mono ?_
  rintro e w6 ⟨rfl, hb6⟩
  have hB06 := bx_trans hB05 hb6
  have h36 : RdB w6 w6.heap.size (.slice A3 (1 + l0.length) c3) ((0 : UInt8) :: l0) := ⟨A3, c3, by rw [hl3], by rw [hl3]; exact hc3, (hr35.below (hb6.mono hs35)).more (by have := hb6.size; omega)⟩
  have hrow := rdBB_one (t := 22) h36 (Nat.le_refl _)
  have hbx : Below w.heap.size w (w6.alloc (.cells #[.slice A3 (1 + l0.length) c3] 22)) := bx_alloc hB06 _
  go_wp2_with fail
  refine (Of_any _ (HL.out.below hbx) (ls := [(0 : UInt8) :: l0]) hrow (Nat.le_refl _) (by simp) (by simp; omega)).mono ?_
  rintro e w7 ⟨rfl, hb7⟩
  rw [show ([(0 : UInt8) :: l0] : List (List UInt8)).flatten = (0 : UInt8) :: l0 from by simp]
  have hB07 := bx_trans hbx hb7
  have hx67 : Below w5.heap.size w5 w7 := bx_trans (bx_alloc hb6 _) hb7
  have hA7 := hA5.below hx67 hA5.lt
  have hB7 := hBB5.below hx67 hBB5.lt
  have hr57 := hr5.below hx67
  have heq := eq_hash (shaL ((0 : UInt8) :: l0)) (shaL ((0 : UInt8) :: l0)) (shaL_length _) (shaL_length _)
  have haL := aggHL hx
  have hbL := aggHL hy
  have hs57 := hx67.size
  clear hrow hbx hb7 hb6 h36 hr35 hx67 hA5 hBB5 hB06 hB05 hr5
  generalize shaL ((0 : UInt8) :: l0) = H at *
  go_wp2_with (first
    | (refine wpList_load_aggG rfl _ _ rfl _ _ rfl (x.map cb) haL (blk_cells hA7) ?_)
    | (refine wpList_load_aggG rfl _ _ rfl _ _ rfl (y.map cb) hbL (blk_cells hB7) ?_))
  clear heq
  refine (Node_any w7 (HL.out.below hB07) hx hy).mono ?_
  rintro e w8 ⟨rfl, hb8⟩
  have hB08 := bx_trans hB07 hb8
  have h58 : RdB w8 w8.heap.size (.slice A5 65 c5) ((1 : UInt8) :: (x ++ y)) := ⟨A5, c5, by rw [hl5], by rw [hl5]; exact hc5, (hr57.below (hb8.mono hs57)).more (by have := hb8.size; omega)⟩
  have hrow := rdBB_one (t := 22) h58 (Nat.le_refl _)
  have hbx : Below w.heap.size w (w8.alloc (.cells #[.slice A5 65 c5] 22)) := bx_alloc hB08 _
  go_wp2_with fail
  refine (Of_any _ (HL.out.below hbx) (ls := [(1 : UInt8) :: (x ++ y)]) hrow (Nat.le_refl _) (by simp) (by simp; omega)).mono ?_
  rintro e w9 ⟨rfl, hb9⟩
  rw [show ([(1 : UInt8) :: (x ++ y)] : List (List UInt8)).flatten = (1 : UInt8) :: (x ++ y) from by simp]
  have hB09 := bx_trans hbx hb9
  have heq := eq_hash (shaL ((1 : UInt8) :: (x ++ y))) (shaL ((1 : UInt8) :: (x ++ y))) (shaL_length _) (shaL_length _)
  clear hrow hbx hb9 h58 hB08 hb8 hr57 hA7 hB7 hl5 hl3
  generalize shaL ((1 : UInt8) :: (x ++ y)) = H2 at *
  go_wp2
  go_ret
  exact ⟨ret_val (by simp), hB09⟩
end Go.Proofs.YtebabkccpbdphaaDoor
