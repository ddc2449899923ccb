
/- The document's answer for the disk: what it is by values; its small functions. -/
import Derived.Test.YtnbjoebdbbhbkaaDiskAwake
import Derived.Test.YtnbjoebdbbhbkaaFlowS
import Derived.Test.YtnbjoebdbbhbkaaFlowK
namespace Go.Proofs.Ytnbjoebdbbhbkaa
open Go.RowKit
set_option linter.unusedVariables false
def Hold (c : Code) : Code := c
theorem hold (k : Nat) (ops : Array Oper) (b : Bool) : Code.region k ops b = Hold (Code.region k ops b) := rfl
theorem wp_hold {P : Program} {c : Code} {Q : Exit → Act → World → Prop} {a : Act} {w : World} (h : c.wp P Q a w) : (Hold c).wp P Q a w := h
/-- A walk is cut between the two parts of a sequence: of the slots that the first part writes the relation alone tells. -/
theorem wp_cut {P : Program} {x y : Code} {Q : Exit → Act → World → Prop} {l0 : List Value} {d0 : List Deferred} {w0 : World} (W : List Bool) (rel : (Nat → Value) → World → Prop)
    (h1 : ∀ K : Act → World → Prop, Hid (∀ f w, rel f w → K { tmps := (mix W l0 f 0).toArray, defers := d0 } w) → x.wp P (Exit.then K Q) { tmps := l0.toArray, defers := d0 } w0)
    (h2 : ∀ f w, rel f w → y.wp P Q { tmps := (mix W l0 f 0).toArray, defers := d0 } w) : (Code.seq x y).wp P Q { tmps := l0.toArray, defers := d0 } w0 :=
  wp_seq_k fun K hK => h1 K (hid fun f w h => hK _ _ (h2 f w h))
/-- At the cut, from within. -/
theorem cut_leaf {W : List Bool} {l0 l : List Value} {d0 : List Deferred} {K : Act → World → Prop} {rel : (Nat → Value) → World → Prop} {w : World} (hk : Hid (∀ f w, rel f w → K { tmps := (mix W l0 f 0).toArray, defers := d0 } w))
    (hl : mix W l0 (fun i => l.getD i undef) 0 = l) (hr : rel (fun i => l.getD i undef) w) : K { tmps := l.toArray, defers := d0 } w := by
  have h := Hid.out hk _ _ hr
  rw [hl] at h
  exact h
theorem holdSeq (k : Nat) (ops : Array Oper) (b : Bool) (c d : Code) : Code.seq (Code.seq (Code.region k ops b) c) d = Hold (Code.seq (Code.seq (Code.region k ops b) c) d) := rfl
/-- Two results, the first of which lies in memory. -/
theorem results_agg2 {P : Program} {fn : Func} {p q : Tmp} {ty : TypeId} (h : fn.results = #[.cell p ty, .tmp q]) {tmps : Array Value} {w : World} {g off : Nat} {cs : List Value}
    (hp : tmps.getD p undef = .pointer (some ⟨g, off, none⟩)) (hT : AggT P ty cs.length) (hc : ∀ j v, cs[j]? = some v → w.cell? ⟨g, off + j, none⟩ = some v) :
    (results fn tmps).run P w = .ok (.tuple #[.agg cs.toArray, tmps.getD q undef]) w := by
  have hp' : tmps[p]?.getD undef = .pointer (some ⟨g, off, none⟩) := by simpa using hp
  simp [results, h, hp', asAddr, run_load_agg hT hc]
abbrev tRD : Nat := 45
def rcs (A : Option Addr) (n c : Nat) (A2 : Option Addr) (m c2 : Nat) (f : Int) (d : Bool) : List Value := [.slice A n c, .slice A2 m c2, .int .i64 f, .bool d]
theorem zeroRD : ZeroT Try.prog tRD (.agg (rcs none 0 0 none 0 0 0 false).toArray) := zeroT_of (by kernel_rfl)
section
variable {A A2 : Option Addr} {n c m c2 : Nat} {f : Int} {d : Bool} {w : World} {g : Nat}
theorem aggRD : AggT Try.prog tRD (rcs A n c A2 m c2 f d).length := aggT_of Try.underlying45 rfl (by kernel_rfl)
theorem oneRD : ∀ v ∈ (rcs A n c A2 m c2 f d).toArray.toList, v.oneCell' = true := by
  intro v hv
  simp only [rcs, List.mem_cons, List.not_mem_nil, or_false] at hv
  rcases hv with rfl | rfl | rfl | rfl <;> rfl
theorem cellD0 (h : Blk w g tRD (rcs A n c A2 m c2 f d).toArray) : w.cell? ⟨g, 0, none⟩ = some (.slice A n c) := by rw [h.cell]; rfl
theorem cellD1 (h : Blk w g tRD (rcs A n c A2 m c2 f d).toArray) : w.cell? ⟨g, 1, none⟩ = some (.slice A2 m c2) := by rw [h.cell]; rfl
theorem cellD2 (h : Blk w g tRD (rcs A n c A2 m c2 f d).toArray) : w.cell? ⟨g, 2, none⟩ = some (.int .i64 f) := by rw [h.cell]; rfl
theorem cellD3 (h : Blk w g tRD (rcs A n c A2 m c2 f d).toArray) : w.cell? ⟨g, 3, none⟩ = some (.bool d) := by rw [h.cell]; rfl
theorem setD0 (h : Blk w g tRD (rcs A n c A2 m c2 f d).toArray) (A' : Option Addr) (n' c' : Nat) : Put w (w.setCell ⟨g, 0, none⟩ (.slice A' n' c')) g tRD (rcs A' n' c' A2 m c2 f d).toArray := setCell_put h (i := 0) _
theorem setD1 (h : Blk w g tRD (rcs A n c A2 m c2 f d).toArray) (A' : Option Addr) (n' c' : Nat) : Put w (w.setCell ⟨g, 1, none⟩ (.slice A' n' c')) g tRD (rcs A n c A' n' c' f d).toArray := setCell_put h (i := 1) _
theorem setD2 (h : Blk w g tRD (rcs A n c A2 m c2 f d).toArray) (f' : Int) : Put w (w.setCell ⟨g, 2, none⟩ (.int .i64 f')) g tRD (rcs A n c A2 m c2 f' d).toArray := setCell_put h (i := 2) _
theorem setD3 (h : Blk w g tRD (rcs A n c A2 m c2 f d).toArray) (d' : Bool) : Put w (w.setCell ⟨g, 3, none⟩ (.bool d')) g tRD (rcs A n c A2 m c2 f d').toArray := setCell_put h (i := 3) _
end
theorem i64_wrap {n : Int} (h0 : 0 ≤ n) (h1 : n < 9223372036854775808) : IntKind.i64.wrap n = n := by simp only [IntKind.wrap, IntKind.bits, IntKind.signed]; simp; omega
theorem i64_wrapS {n : Int} (h0 : -9223372036854775808 ≤ n) (h1 : n < 9223372036854775808) : IntKind.i64.wrap n = n := by simp only [IntKind.wrap, IntKind.bits, IntKind.signed]; simp; omega
def rcountE (f : Int) : Int := if f = 0 then 30 else 0
def rcountF (f : Int) : Int := if 0 < f then f - 1 else f
def rcountD (f : Int) (d : Bool) : Bool := if f = 0 then true else d
set_option maxRecDepth 100000 in
set_option maxHeartbeats 1000000 in
theorem rcount_any (w : World) (A A2 : Option Addr) (n c m c2 : Nat) (f : Int) (d : Bool) (hf : f ≤ 9223372036854775807) :
    Calls Try.prog 29 #[.agg (rcs A n c A2 m c2 f d).toArray] w fun x w' => x = .returned (.tuple #[.agg (rcs A n c A2 m c2 (rcountF f) (rcountD f d)).toArray, .int .i64 (rcountE f)]) ∧ Below w.heap.size w w' := by
  have hbx := Blk.new w tRD (rcs A n c A2 m c2 f d).toArray
  have hb0 : Below w.heap.size w (w.alloc (.cells (rcs A n c A2 m c2 f d).toArray tRD)) := bx_alloc (Below.refl _ _) _
  have hgs : w.heap.size < (w.alloc (.cells (rcs A n c A2 m c2 f d).toArray tRD)).heap.size := by simp
  go_enter Try.func29, Try.ntmps29
  by_cases hf0 : f = 0
  · subst hf0
    rw [show rcountF 0 = 0 from rfl, show rcountD 0 d = true from rfl, show rcountE 0 = 30 from rfl]
    go_wp2_with (first
      | (refine wpList_alloc rfl _ rfl zeroRD ?_; intro g2 w2 hg2 hg2' hblk2 hb2; have hne2 : g2 ≠ w.heap.size := Nat.ne_of_gt (Nat.lt_of_lt_of_le hgs hg2); have hle2 : w.heap.size ≤ g2 := Nat.le_trans hb0.size hg2; have hbA := bx_trans hb0 hb2; have hblk1 := hbx.below hb2 hgs; have c2' := cellD2 hblk1; have f3 := hblk1.frozen 3; have c3' := cellD3 hblk1; have l1 := hblk1.lt)
      | (refine wpList_load_agg rfl _ _ rfl _ _ rfl (rcs A n c A2 m c2 0 true) aggRD (blk_cells ((setD3 hblk1 true).blk)) ?_)
      | (refine wpList_store_agg rfl _ _ _ rfl _ _ rfl (rcs A n c A2 m c2 0 true).toArray rfl aggRD ((setD3 hblk1 true).other hblk2 hne2) (Nat.le_refl 4) oneRD ?_; intro w4 hp4))
    refine bodyPost_ret (results_agg2 rfl rfl (aggRD (A := A) (n := n) (c := c) (A2 := A2) (m := m) (c2 := c2) (f := 0) (d := true)) (blk_cells hp4.blk)) rfl ?_
    exact ⟨rfl, bx_put (bx_put hbA (setD3 hblk1 true) (Nat.le_refl _)) hp4 hle2⟩
  · have e0 : (f == 0) = false := by simpa using hf0
    by_cases hf1 : 0 < f
    · rw [show rcountF f = f - 1 from if_pos hf1, show rcountD f d = d from if_neg hf0, show rcountE f = 0 from if_neg hf0]
      have hw : IntKind.i64.wrap (f - 1) = f - 1 := i64_wrap (by omega) (by omega)
      go_wp2_with (first
        | (refine wpList_alloc rfl _ rfl zeroRD ?_; intro g2 w2 hg2 hg2' hblk2 hb2; have hne2 : g2 ≠ w.heap.size := Nat.ne_of_gt (Nat.lt_of_lt_of_le hgs hg2); have hle2 : w.heap.size ≤ g2 := Nat.le_trans hb0.size hg2; have hbA := bx_trans hb0 hb2; have hblk1 := hbx.below hb2 hgs; have c2' := cellD2 hblk1; have f2 := hblk1.frozen 2; have l1 := hblk1.lt)
        | (refine wpList_load_agg rfl _ _ rfl _ _ rfl (rcs A n c A2 m c2 (f - 1) d) aggRD (blk_cells ((setD2 hblk1 (f - 1)).blk)) ?_)
        | (refine wpList_store_agg rfl _ _ _ rfl _ _ rfl (rcs A n c A2 m c2 (f - 1) d).toArray rfl aggRD ((setD2 hblk1 (f - 1)).other hblk2 hne2) (Nat.le_refl 4) oneRD ?_; intro w4 hp4))
      refine bodyPost_ret (results_agg2 rfl rfl (aggRD (A := A) (n := n) (c := c) (A2 := A2) (m := m) (c2 := c2) (f := f - 1) (d := d)) (blk_cells hp4.blk)) rfl ?_
      exact ⟨rfl, bx_put (bx_put hbA (setD2 hblk1 (f - 1)) (Nat.le_refl _)) hp4 hle2⟩
    · rw [show rcountF f = f from if_neg hf1, show rcountD f d = d from if_neg hf0, show rcountE f = 0 from if_neg hf0]
      go_wp2_with (first
        | (refine wpList_alloc rfl _ rfl zeroRD ?_; intro g2 w2 hg2 hg2' hblk2 hb2; have hne2 : g2 ≠ w.heap.size := Nat.ne_of_gt (Nat.lt_of_lt_of_le hgs hg2); have hle2 : w.heap.size ≤ g2 := Nat.le_trans hb0.size hg2; have hbA := bx_trans hb0 hb2; have hblk1 := hbx.below hb2 hgs; have c2' := cellD2 hblk1; have l1 := hblk1.lt)
        | (refine wpList_load_agg rfl _ _ rfl _ _ rfl (rcs A n c A2 m c2 f d) aggRD (blk_cells hblk1) ?_)
        | (refine wpList_store_agg rfl _ _ _ rfl _ _ rfl (rcs A n c A2 m c2 f d).toArray rfl aggRD hblk2 (Nat.le_refl 4) oneRD ?_; intro w4 hp4))
      refine bodyPost_ret (results_agg2 rfl rfl (aggRD (A := A) (n := n) (c := c) (A2 := A2) (m := m) (c2 := c2) (f := f) (d := d)) (blk_cells hp4.blk)) rfl ?_
      exact ⟨rfl, bx_put hbA hp4 hle2⟩
def rfailF (x : Int) : Int := if x < 0 then -1 else x
set_option maxRecDepth 100000 in
set_option maxHeartbeats 1000000 in
theorem rFail_any (w : World) (A A2 : Option Addr) (n c m c2 : Nat) (f : Int) (d : Bool) (x : Int) :
    Calls Try.prog 23 #[.agg (rcs A n c A2 m c2 f d).toArray, .int .i64 x] w fun e w' => e = .returned (.agg (rcs A n c A2 m c2 (rfailF x) d).toArray) ∧ Below w.heap.size w w' := by
  have hbx := Blk.new w tRD (rcs A n c A2 m c2 f d).toArray
  have hb0 : Below w.heap.size w (w.alloc (.cells (rcs A n c A2 m c2 f d).toArray tRD)) := bx_alloc (Below.refl _ _) _
  have hgs : w.heap.size < (w.alloc (.cells (rcs A n c A2 m c2 f d).toArray tRD)).heap.size := by simp
  go_enter Try.func23, Try.ntmps23
  by_cases hx : x < 0
  · rw [show rfailF x = -1 from if_pos hx]
    go_wp2_with (first
      | (refine wpList_alloc rfl _ rfl zeroRD ?_; intro g2 w2 hg2 hg2' hblk2 hb2; have hne2 : g2 ≠ w.heap.size := Nat.ne_of_gt (Nat.lt_of_lt_of_le hgs hg2); have hle2 : w.heap.size ≤ g2 := Nat.le_trans hb0.size hg2; have hbA := bx_trans hb0 hb2; have hblk1 := hbx.below hb2 hgs; have f2 := hblk1.frozen 2; have c2' := cellD2 hblk1; have c2'' := cellD2 (setD2 hblk1 x).blk; have f2' := (setD2 hblk1 x).blk.frozen 2; have l1 := hblk1.lt; have hP := setD2 (setD2 hblk1 x).blk (-1))
      | (refine wpList_load_agg rfl _ _ rfl _ _ rfl (rcs A n c A2 m c2 (-1) d) aggRD (blk_cells hP.blk) ?_)
      | (refine wpList_store_agg rfl _ _ _ rfl _ _ rfl (rcs A n c A2 m c2 (-1) d).toArray rfl aggRD (hP.other ((setD2 hblk1 x).other hblk2 hne2) hne2) (Nat.le_refl 4) oneRD ?_; intro w4 hp4))
    refine bodyPost_ret (results_agg rfl rfl (aggRD (A := A) (n := n) (c := c) (A2 := A2) (m := m) (c2 := c2) (f := -1) (d := d)) (blk_cells hp4.blk)) rfl ?_
    exact ⟨rfl, bx_put (bx_put (bx_put hbA (setD2 hblk1 x) (Nat.le_refl _)) hP (Nat.le_refl _)) hp4 hle2⟩
  · rw [show rfailF x = x from if_neg hx]
    go_wp2_with (first
      | (refine wpList_alloc rfl _ rfl zeroRD ?_; intro g2 w2 hg2 hg2' hblk2 hb2; have hne2 : g2 ≠ w.heap.size := Nat.ne_of_gt (Nat.lt_of_lt_of_le hgs hg2); have hle2 : w.heap.size ≤ g2 := Nat.le_trans hb0.size hg2; have hbA := bx_trans hb0 hb2; have hblk1 := hbx.below hb2 hgs; have f2 := hblk1.frozen 2; have c2' := cellD2 hblk1; have l1 := hblk1.lt)
      | (refine wpList_load_agg rfl _ _ rfl _ _ rfl (rcs A n c A2 m c2 x d) aggRD (blk_cells ((setD2 hblk1 x).blk)) ?_)
      | (refine wpList_store_agg rfl _ _ _ rfl _ _ rfl (rcs A n c A2 m c2 x d).toArray rfl aggRD ((setD2 hblk1 x).other hblk2 hne2) (Nat.le_refl 4) oneRD ?_; intro w4 hp4))
    refine bodyPost_ret (results_agg rfl rfl (aggRD (A := A) (n := n) (c := c) (A2 := A2) (m := m) (c2 := c2) (f := x) (d := d)) (blk_cells hp4.blk)) rfl ?_
    exact ⟨rfl, bx_put (bx_put hbA (setD2 hblk1 x) (Nat.le_refl _)) hp4 hle2⟩
end Go.Proofs.Ytnbjoebdbbhbkaa
