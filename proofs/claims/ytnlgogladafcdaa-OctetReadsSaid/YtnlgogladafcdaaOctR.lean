/- The document's End; a nil reader's Hash. -/
import Derived.Test.YtnlgogladafcdaaOctQ
import Derived.Test.YtnlgogladafcdaaFlowK
namespace Go.Proofs.Ytnlgogladafcdaa
open Go.RowKit
set_option linter.unusedVariables false
set_option maxRecDepth 100000 in
set_option maxHeartbeats 1000000 in
theorem refEnd_any (w : World) (b : List UInt8) (e : Int) :
    Calls Try.prog 30 #[.agg (rcs b e).toArray] w fun x w' => x = .returned (.int .i64 (endE ⟨b, e⟩)) ∧ Below w.heap.size w w' := by
  have hbx := Blk.new w tR (rcs b e).toArray
  have hb0 : Below w.heap.size w (w.alloc (.cells (rcs b e).toArray tR)) := bx_alloc (Below.refl _ _) _
  have c0 := cellR0 hbx
  have c1 := cellR1 hbx
  have f0 := hbx.frozen 0
  have f1 := hbx.frozen 1
  unfold endE
  clear hbx
  by_cases he : e = 0
  · subst he
    rw [if_neg (show ¬ (⟨b, 0⟩ : RS).e ≠ 0 from fun h => h rfl)]
    cases b with
    | nil =>
      rw [if_pos (show (⟨[], 0⟩ : RS).b.length = 0 from rfl)]
      go_enter Try.func30, Try.ntmps30
      go_wp2
      go_ret
      exact ⟨rfl, hb0⟩
    | cons x r =>
      rw [if_neg (show ¬ (⟨x :: r, 0⟩ : RS).b.length = 0 from fun h => by cases h)]
      have hie : (x :: r).isEmpty = false := rfl
      generalize x :: r = b at *
      go_enter Try.func30, Try.ntmps30
      go_wp2
      go_ret
      exact ⟨rfl, hb0⟩
  · have hs : (⟨b, e⟩ : RS).e ≠ 0 := he
    rw [if_pos hs]
    go_enter Try.func30, Try.ntmps30
    go_wp2
    go_ret
    exact ⟨rfl, hb0⟩
set_option maxRecDepth 100000 in
set_option maxHeartbeats 800000 in
theorem RHash_nil (w : World) : Calls Try.prog 27 #[.pointer none] w fun e w' => e = .returned (.agg ((List.replicate 32 (0 : UInt8)).map cb).toArray) ∧ Below w.heap.size w w' := by
  obtain ⟨r, hr⟩ : ∃ r, r = List.replicate 32 (0 : UInt8) := ⟨_, rfl⟩
  have hz : r.length = 32 := by rw [hr]; simp
  rw [← hr]
  have HR := hid hr
  clear hr
  go_enter Try.func27, Try.ntmps27
  go_wp2_with (refine wpList_alloc rfl _ rfl zeroH ?_; intro g3 w3 hg3 hg3' hblk3 hb3)
  rename_i g2 w2 hg2 hg2' hblk2 hb2 _ _
  have hblk23 := hblk2.below hb3 hg2'
  have hb03 := bx_trans hb2 hb3
  have h23 : g2 < g3 := by omega
  clear hblk2 hb2 hb3
  simp only [Act.put, List.setIfInBounds_toArray, List.set_cons_succ, List.set_cons_zero]
  refine wp_flowK (by kernel_rfl) [0, 0, 2, 7] 3 [false, false, false, false, true, true, true, false] (by kernel_rfl) (by decide) (by kernel_rfl) [KP.eq (.slice (some ⟨g3, 0, none⟩) 32 32), KP.eq (.pointer none), KP.any] [2] (fun ks w' => match ks with | [some v] => v = .slice none 0 0 ∧ w' = w3.drew | _ => w' = w3.drew) ?_ ?_ ?_
  · exact rfl
  · refine allFrom_cons ?_ ?_
    · refine stepK_by (by decide) ?_
      intro f_ a_ w_ hM_ hk_
      have h3 : a_.eval (.tmp 3) = .pointer (some ⟨g3, 0, none⟩) := hk_.old 3 (by kernel_rfl)
      clear hk_
      refine flow_plain rfl ?_
      refine gives_keep hM_ ?_
      unfold gives
      have hc_ : ∀ v, a_.eval (.const v) = v := fun _ => rfl
      have hn_ : ∀ f, a_.eval (.func f) = .func (.func f) #[] #[] := fun _ => rfl
      generalize a_.eval = ρ_ at *
      go_simp
      exact ⟨rfl, rfl⟩
    refine allFrom_cons ?_ ?_
    · refine stepK_by (by decide) ?_
      intro f_ a_ w_ hM_ hk_
      have h0 : a_.eval (.tmp 0) = .pointer none := hk_.old 0 (by kernel_rfl)
      have k2 := hk_.later 2 _ (by kernel_rfl) rfl
      clear hk_
      refine flow_plain rfl ?_
      exact gives_move rfl ⟨hM_, h0⟩
    refine allFrom_cons ?_ ?_
    · intro f_ a_ w_ hM_ hk_
      have h5 : a_.eval (.tmp 5) = (.pointer none) := hk_.got 1 5 _ (by kernel_rfl) rfl rfl
      have k2 : f_ 2 = none := hk_.un
      clear hk_
      simp only [List.map_cons, List.map_nil, k2] at hM_
      simp only [List.map_cons, List.map_nil, upd_same]
      refine flow_plain rfl ?_
      unfold gives
      have hc_ : ∀ v, a_.eval (.const v) = v := fun _ => rfl
      have hn_ : ∀ f, a_.eval (.func f) = .func (.func f) #[] #[] := fun _ => rfl
      generalize a_.eval = ρ_ at *
      go_simp
      subst hM_
      exact (RRaw_nil _ 32).mono fun e w' hh => ⟨_, hh.1, rfl, hh.2.symm⟩
    exact allFrom_nil
  intro f_ y_ w_ hM_ hf_ hd_
  have h4 : f_ 4 = (.slice (some ⟨g3, 0, none⟩) 32 32) := (hf_ 0 4 _ (by decide) rfl rfl).1
  have h5 : f_ 5 = (.pointer none) := (hf_ 1 5 _ (by decide) rfl rfl).1
  have k2 := (hf_ 2 6 _ (by decide) rfl rfl).2
  simp only [List.map_cons, List.map_nil, k2] at hM_
  simp only [mix, List.drop_succ_cons, List.drop_zero, h4, h5]
  clear hf_ hd_ h4 h5 k2
  obtain ⟨hv, rfl⟩ := hM_
  rw [show f_ (0 + 1 + 1 + 1 + 1 + 1 + 1) = .slice none 0 0 from hv]
  have hbd : Below w.heap.size w w3.drew := bx_drew hb03
  have hblk5 : Blk w3.drew g3 25 _ := blk_zero hblk3
  rw [← HR.out] at hblk5
  have hblk25 : Blk w3.drew g2 25 _ := hblk23
  clear hblk3 hblk23 hv hb03
  generalize w3.drew = w5 at *
  go_wp2_with (first
    | (refine wpList_copy_nothing rfl _ _ _ _ rfl 5 Try.underlying23 size8 _ _ 32 32 0 0 rfl rfl rfl ?_)
    | (refine wpList_load_agg rfl _ _ rfl _ _ rfl (r.map cb) (aggHL hz) (blk_cells hblk5) ?_)
    | (refine wpList_store_agg rfl _ _ _ rfl _ _ rfl (r.map cb).toArray rfl (aggHS hz) hblk25 (szH hz) (one_cbA r) ?_; intro w6 hput6))
  rw [splH hz] at hput6
  exact bodyPost_ret (results_agg (cs := r.map cb) rfl rfl (aggHL hz) (blk_cells hput6.blk)) rfl ⟨rfl, bx_put hbd hput6 (by omega)⟩
end Go.Proofs.Ytnlgogladafcdaa
