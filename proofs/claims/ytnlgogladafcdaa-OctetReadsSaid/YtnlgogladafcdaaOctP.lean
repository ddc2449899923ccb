/- The document's answer for octet: the reader, walked. -/
import Derived.Test.YtnlgogladafcdaaOctN
namespace Go.Proofs.Ytnlgogladafcdaa
open Go.RowKit
set_option linter.unusedVariables false
/-- Two results, the first of which lies in memory. -/
theorem results_agg2 {P : Program} {fn : Func} {p q : Tmp} {ty : TypeId} (h : fn.results = #[.cell p ty, .tmp q]) {tmps : Array Value} {w : World} {g off : Nat} {cs : List Value}
    (hp : tmps.getD p undef = .pointer (some ⟨g, off, none⟩)) (hT : AggT P ty cs.length) (hc : ∀ j v, cs[j]? = some v → w.cell? ⟨g, off + j, none⟩ = some v) :
    (results fn tmps).run P w = .ok (.tuple #[.agg cs.toArray, tmps.getD q undef]) w := by
  have hp' : tmps[p]?.getD undef = .pointer (some ⟨g, off, none⟩) := by simpa using hp
  simp [results, h, hp', asAddr, run_load_agg hT hc]
abbrev tR : Nat := 40
def rcs (b : List UInt8) (e : Int) : List Value := [.string ⟨b.toArray⟩, .int .i64 e]
theorem zeroR : ZeroT Try.prog tR (.agg (rcs [] 0).toArray) := zeroT_of (by kernel_rfl)
theorem aggR (b : List UInt8) (e : Int) : AggT Try.prog tR (rcs b e).length := aggT_of Try.underlying40 rfl (by kernel_rfl)
theorem str_take (b : List UInt8) (k : Nat) : (⟨b.toArray⟩ : ByteArray).extract 0 k = ⟨(b.take k).toArray⟩ := by
  apply ByteArray.ext
  rw [ByteArray.data_extract]
  simp
theorem str_drop (b : List UInt8) (k n : Nat) (h : b.length ≤ n) : (⟨b.toArray⟩ : ByteArray).extract k n = ⟨(b.drop k).toArray⟩ := by
  apply ByteArray.ext
  rw [ByteArray.data_extract]
  simp
  exact List.take_of_length_le (by rw [List.length_drop]; omega)
theorem oneR (b : List UInt8) (e : Int) : ∀ v ∈ (rcs b e).toArray.toList, v.oneCell' = true := by
  intro v hv
  simp only [rcs, List.mem_cons, List.not_mem_nil, or_false] at hv
  rcases hv with rfl | rfl <;> rfl
theorem splR (b b' : List UInt8) (e e' : Int) : spl (rcs b' e').toArray 0 (rcs b e).toArray.toList = (rcs b e).toArray := rfl
/-- What a block that holds a reader reads. -/
theorem cellR0 {w : World} {g : Nat} {b : List UInt8} {e : Int} (h : Blk w g tR (rcs b e).toArray) : w.cell? ⟨g, 0, none⟩ = some (.string ⟨b.toArray⟩) := by rw [h.cell]; rfl
theorem cellR1 {w : World} {g : Nat} {b : List UInt8} {e : Int} (h : Blk w g tR (rcs b e).toArray) : w.cell? ⟨g, 1, none⟩ = some (.int .i64 e) := by rw [h.cell]; rfl
theorem setR0 {w : World} {g : Nat} {b : List UInt8} {e : Int} (h : Blk w g tR (rcs b e).toArray) (b' : List UInt8) : Put w (w.setCell ⟨g, 0, none⟩ (.string ⟨b'.toArray⟩)) g tR (rcs b' e).toArray := setCell_put h (i := 0) _
theorem setR1 {w : World} {g : Nat} {b : List UInt8} {e : Int} (h : Blk w g tR (rcs b e).toArray) (e' : Int) : Put w (w.setCell ⟨g, 1, none⟩ (.int .i64 e')) g tR (rcs b e').toArray := setCell_put h (i := 1) _
set_option maxRecDepth 100000 in
set_option maxHeartbeats 1000000 in
theorem refRaw_any (w : World) (b : List UInt8) (e n : Int) (hn : n ≤ 9223372036854775807) (hb : b.length ≤ 1000000) :
    Calls Try.prog 24 #[.agg (rcs b e).toArray, .int .i64 n] w fun x w' => x = .returned (.tuple #[.agg (rcs (rawS ⟨b, e⟩ n).b (rawS ⟨b, e⟩ n).e).toArray, .string ⟨(rawV ⟨b, e⟩ n).toArray⟩]) ∧ Below w.heap.size w w' := by
  have hbx := Blk.new w tR (rcs b e).toArray
  have hb0 : Below w.heap.size w (w.alloc (.cells (rcs b e).toArray tR)) := bx_alloc (Below.refl _ _) _
  have hgs : w.heap.size < (w.alloc (.cells (rcs b e).toArray tR)).heap.size := by simp
  have hsz : (⟨b.toArray⟩ : ByteArray).size = b.length := by simp [ByteArray.size]
  go_enter Try.func24, Try.ntmps24
  by_cases he : e = 0
  · subst he
    by_cases hn0 : n < 0
    · have hs : rawS ⟨b, 0⟩ n = ⟨b, 1⟩ ∧ rawV ⟨b, 0⟩ n = [] := by unfold rawS rawV argS; rw [if_pos hn0, if_pos hn0, if_pos rfl]; exact ⟨rfl, rfl⟩
      rw [hs.1, hs.2]
      clear hs
      go_wp2_with (first
        | (refine wpList_alloc rfl _ rfl zeroR ?_; intro g2 w2 hg2 hg2' hblk2 hb2; have hne2 : g2 ≠ w.heap.size := Nat.ne_of_gt (Nat.lt_of_lt_of_le hgs hg2); have hle2 : w.heap.size ≤ g2 := Nat.le_trans hb0.size hg2; have hbA := bx_trans hb0 hb2; have hblk1 := hbx.below hb2 hgs; have c0 := cellR0 hblk1; have c1 := cellR1 hblk1; have f1 := hblk1.frozen 1; have f0 := hblk1.frozen 0)
        | (refine wpList_load_agg rfl _ _ rfl _ _ rfl (rcs b 1) (aggR _ _) (blk_cells ((setR1 hblk1 1).blk)) ?_)
        | (refine wpList_store_agg rfl _ _ _ rfl _ _ rfl (rcs b 1).toArray rfl (aggR _ _) ((setR1 hblk1 1).other hblk2 hne2) (Nat.le_refl 2) (oneR _ _) ?_; intro w4 hp4))
      refine bodyPost_ret (results_agg2 rfl rfl (aggR b 1) (blk_cells hp4.blk)) rfl ?_
      exact ⟨rfl, bx_put (bx_put hbA (setR1 hblk1 1) (Nat.le_refl _)) hp4 hle2⟩
    · obtain ⟨k, rfl⟩ := Int.eq_ofNat_of_zero_le (show 0 ≤ n by omega)
      by_cases hlt : b.length < k
      · have hs : rawS ⟨b, 0⟩ (k : Int) = ⟨b, 10⟩ ∧ rawV ⟨b, 0⟩ (k : Int) = [] := by unfold rawS rawV takeS takeV; rw [if_neg hn0, if_neg hn0, Int.toNat_natCast, if_pos rfl, if_pos rfl, if_pos hlt, if_pos hlt]; exact ⟨rfl, rfl⟩
        rw [hs.1, hs.2]
        clear hs
        go_wp2_with (first
          | (refine wpList_alloc rfl _ rfl zeroR ?_; intro g2 w2 hg2 hg2' hblk2 hb2; have hne2 : g2 ≠ w.heap.size := Nat.ne_of_gt (Nat.lt_of_lt_of_le hgs hg2); have hle2 : w.heap.size ≤ g2 := Nat.le_trans hb0.size hg2; have hbA := bx_trans hb0 hb2; have hblk1 := hbx.below hb2 hgs; have c0 := cellR0 hblk1; have c1 := cellR1 hblk1; have f1 := hblk1.frozen 1; have f0 := hblk1.frozen 0)
          | (refine wpList_load_agg rfl _ _ rfl _ _ rfl (rcs b 10) (aggR _ _) (blk_cells ((setR1 hblk1 10).blk)) ?_)
          | (refine wpList_store_agg rfl _ _ _ rfl _ _ rfl (rcs b 10).toArray rfl (aggR _ _) ((setR1 hblk1 10).other hblk2 hne2) (Nat.le_refl 2) (oneR _ _) ?_; intro w4 hp4))
        refine bodyPost_ret (results_agg2 rfl rfl (aggR b 10) (blk_cells hp4.blk)) rfl ?_
        exact ⟨rfl, bx_put (bx_put hbA (setR1 hblk1 10) (Nat.le_refl _)) hp4 hle2⟩
      · have hs : rawS ⟨b, 0⟩ (k : Int) = ⟨b.drop k, 0⟩ ∧ rawV ⟨b, 0⟩ (k : Int) = b.take k := by unfold rawS rawV takeS takeV; rw [if_neg hn0, if_neg hn0, Int.toNat_natCast, if_pos rfl, if_pos rfl, if_neg hlt, if_neg hlt]; exact ⟨rfl, rfl⟩
        rw [hs.1, hs.2]
        clear hs
        have hst := str_take b k
        have hsd := str_drop b k b.length (Nat.le_refl _)
        have hkb : k ≤ b.length := by omega
        go_wp2_with (first
          | (refine wpList_alloc rfl _ rfl zeroR ?_; intro g2 w2 hg2 hg2' hblk2 hb2; have hne2 : g2 ≠ w.heap.size := Nat.ne_of_gt (Nat.lt_of_lt_of_le hgs hg2); have hle2 : w.heap.size ≤ g2 := Nat.le_trans hb0.size hg2; have hbA := bx_trans hb0 hb2; have hblk1 := hbx.below hb2 hgs; have c0 := cellR0 hblk1; have c1 := cellR1 hblk1; have f1 := hblk1.frozen 1; have f0 := hblk1.frozen 0)
          | (refine wpList_load_agg rfl _ _ rfl _ _ rfl (rcs (b.drop k) 0) (aggR _ _) (blk_cells ((setR0 hblk1 (b.drop k)).blk)) ?_)
          | (refine wpList_store_agg rfl _ _ _ rfl _ _ rfl (rcs (b.drop k) 0).toArray rfl (aggR _ _) ((setR0 hblk1 (b.drop k)).other hblk2 hne2) (Nat.le_refl 2) (oneR _ _) ?_; intro w4 hp4))
        refine bodyPost_ret (results_agg2 rfl rfl (aggR (b.drop k) 0) (blk_cells hp4.blk)) rfl ?_
        exact ⟨rfl, bx_put (bx_put hbA (setR0 hblk1 (b.drop k)) (Nat.le_refl _)) hp4 hle2⟩
  · have hs : rawS ⟨b, e⟩ n = ⟨b, e⟩ ∧ rawV ⟨b, e⟩ n = [] := ⟨(stuck_raw (s := ⟨b, e⟩) he n).2, (stuck_raw (s := ⟨b, e⟩) he n).1⟩
    rw [hs.1, hs.2]
    clear hs
    go_wp2_with (first
      | (refine wpList_alloc rfl _ rfl zeroR ?_; intro g2 w2 hg2 hg2' hblk2 hb2; have hne2 : g2 ≠ w.heap.size := Nat.ne_of_gt (Nat.lt_of_lt_of_le hgs hg2); have hle2 : w.heap.size ≤ g2 := Nat.le_trans hb0.size hg2; have hbA := bx_trans hb0 hb2; have hblk1 := hbx.below hb2 hgs; have c0 := cellR0 hblk1; have c1 := cellR1 hblk1; have f1 := hblk1.frozen 1; have f0 := hblk1.frozen 0)
      | (refine wpList_load_agg rfl _ _ rfl _ _ rfl (rcs b e) (aggR _ _) (blk_cells (hblk1)) ?_)
      | (refine wpList_store_agg rfl _ _ _ rfl _ _ rfl (rcs b e).toArray rfl (aggR _ _) (hblk2) (Nat.le_refl 2) (oneR _ _) ?_; intro w4 hp4))
    refine bodyPost_ret (results_agg2 rfl rfl (aggR b e) (blk_cells hp4.blk)) rfl ?_
    exact ⟨rfl, bx_put (hbA) hp4 hle2⟩
end Go.Proofs.Ytnlgogladafcdaa
