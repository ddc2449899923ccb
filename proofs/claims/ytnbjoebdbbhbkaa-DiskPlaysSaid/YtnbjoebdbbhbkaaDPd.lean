
/- The document's answer for the disk: New. -/
import Derived.Test.YtnbjoebdbbhbkaaDPc
namespace Go.Proofs.Ytnbjoebdbbhbkaa
open Go.RowKit
set_option linter.unusedVariables false
theorem gives_buildP {P : Program} {o : Oper} {a : Act} {w : World} {S : Value → World → Prop} (t : TypeId) (parts : Array (Nat × Operand)) (ho : o.op = .build t parts) (bs : List (Nat × Value)) (hv : (parts.map fun (i, x) => (i, a.eval x)).toList = bs)
    {cells : Array Value} (hb : P.built t bs = some cells) (h : S (.agg cells) w) : gives P o a w S := by
  refine gives_val (v := .agg cells) (w' := w) ?_ h
  unfold execOp
  rw [← hv] at hb
  simp only [ho, Sem.run_bind, run_build w t _ cells hb, Result.andThen_ok, Sem.run_pure]
theorem own_keep {w w' : World} {base e size n : Nat} {v : Value} {xs : List Value} (h : w.ownsRow base e size v n xs) (hb : Below w.heap.size w w') : w'.ownsRow base e size v n xs := by
  refine h.kept (row := none) ⟨hb.os, hb.tape, hb.output, hb.size, fun k hk _ => hb.block k hk⟩ ?_
  cases hv : v.ownBlock with
  | none => exact .inl rfl
  | some a => exact .inr (by simp)
theorem grown_blk {w w1 : World} {base e size n : Nat} {v : Value} {xs : List Value} (h : w.ownsRow base e size v n xs) (hg : w.grownBy w1 v.ownBlock) {g t : Nat} {cs : Array Value} (hb : Blk w g t cs) (hne : t ≠ e) : Blk w1 g t cs :=
  (hg.block g hb.lt (fun q => own_ne h hb (fun cur hx => by injection hx with _ hx; exact hne hx) q.symm)).trans hb
theorem bltRD0 : Try.prog.built tRD [] = some (rcs none 0 0 none 0 0 0 false).toArray := by kernel_rfl
theorem bltRD1 : Try.prog.built tRD [(2, .int .i64 (-1))] = some (rcs none 0 0 none 0 0 (-1) false).toArray := by kernel_rfl
set_option maxRecDepth 100000 in
set_option maxHeartbeats 1000000 in
theorem rNew_no (w : World) (n : Int) (h : n < 1 ∨ 65536 < n) : Calls Try.prog 20 #[.int .i64 n] w fun e w' =>
    e = .returned (.tuple #[.agg (rcs none 0 0 none 0 0 0 false).toArray, .int .i64 1]) ∧ Below w.heap.size w w' := by
  have hg2 : Blk (w.alloc (.cells (rcs none 0 0 none 0 0 0 false).toArray tRD)) w.heap.size tRD (rcs none 0 0 none 0 0 0 false).toArray := Blk.new _ _ _
  have hb2 : Below w.heap.size w (w.alloc (.cells (rcs none 0 0 none 0 0 0 false).toArray tRD)) := bx_alloc (Below.refl _ _) _
  go_enter Try.func20, Try.ntmps20
  by_cases h1 : n < 1
  · go_wp2_with (first
      | (refine wpList_alloc rfl _ rfl zeroRD ?_; intro g2 w2 hg2 hg2' hblk2 hb2)
      | ((with_reducible refine wpAtC ?_); refine wpList_gives rfl (gives_buildP tRD _ rfl [] (by simp) bltRD0 (S := fun v w' => v = .agg (rcs none 0 0 none 0 0 0 false).toArray ∧ w' = _) ⟨rfl, rfl⟩) ?_; rintro v9 w9 ⟨rfl, rfl⟩; simp only [Act.put, List.setIfInBounds_toArray, List.set_cons_succ, List.set_cons_zero])
      | ((with_reducible refine wpAtC ?_); refine wpList_store_agg rfl _ _ _ rfl _ _ rfl (rcs none 0 0 none 0 0 0 false).toArray rfl aggRD hblk2 (Nat.le_refl 4) oneRD ?_; intro w4 hp4))
    refine bodyPost_ret (results_agg2 rfl rfl (aggRD (A := none) (n := 0) (c := 0) (A2 := none) (m := 0) (c2 := 0) (f := 0) (d := false)) (blk_cells hp4.blk)) rfl ?_
    exact ⟨rfl, bx_put hb2 hp4 hg2⟩
  · have h2 : 65536 < n := by omega
    go_wp2_with (first
      | (refine wpList_alloc rfl _ rfl zeroRD ?_; intro g2 w2 hg2 hg2' hblk2 hb2)
      | ((with_reducible refine wpAtC ?_); refine wpList_gives rfl (gives_buildP tRD _ rfl [] (by simp) bltRD0 (S := fun v w' => v = .agg (rcs none 0 0 none 0 0 0 false).toArray ∧ w' = _) ⟨rfl, rfl⟩) ?_; rintro v9 w9 ⟨rfl, rfl⟩; simp only [Act.put, List.setIfInBounds_toArray, List.set_cons_succ, List.set_cons_zero])
      | ((with_reducible refine wpAtC ?_); refine wpList_store_agg rfl _ _ _ rfl _ _ rfl (rcs none 0 0 none 0 0 0 false).toArray rfl aggRD hblk2 (Nat.le_refl 4) oneRD ?_; intro w4 hp4))
    refine bodyPost_ret (results_agg2 rfl rfl (aggRD (A := none) (n := 0) (c := 0) (A2 := none) (m := 0) (c2 := 0) (f := 0) (d := false)) (blk_cells hp4.blk)) rfl ?_
    exact ⟨rfl, bx_put hb2 hp4 hg2⟩
theorem rGood_new (n : Nat) : (rGood (newD n)).map sval = List.replicate n (sval zeros) := by
  unfold rGood
  rw [List.map_map, List.eq_replicate_iff]
  refine ⟨by rw [List.length_map, List.length_range]; rfl, fun b hb => ?_⟩
  obtain ⟨k, _, rfl⟩ := List.mem_map.1 hb
  rfl
theorem zrow_zeros {w : World} : Below w.heap.size w (w.alloc (.cells (zrow 256 (.int .u8 0)) 5)) ∧ (FP.bytes zeros).p (.slice (some ⟨w.heap.size, 0, none⟩) 256 256) (w.alloc (.cells (zrow 256 (.int .u8 0)) 5)) := by
  have hz : (zrow 256 (.int .u8 0)).toList = zeros.map cb := by
    unfold zrow zeros
    rw [List.map_replicate]
    rfl
  exact ⟨bx_alloc (Below.refl _ _) _, rdB_of_row (heap_new rfl) hz zeros_length.symm (Nat.le_of_eq zeros_length)⟩
set_option maxRecDepth 100000 in
set_option maxHeartbeats 2000000 in
theorem rNew_yes (w : World) (n : Nat) (hn1 : 1 ≤ n) (hn : n ≤ 100) : Calls Try.prog 20 #[.int .i64 (n : Int)] w fun e w' => ∃ A c,
    e = .returned (.tuple #[.agg (rcs A n c none 0 0 (-1) false).toArray, .int .i64 0]) ∧ RefAt w' (newD n) A c none 0 ∧ Below w.heap.size w w' := by
  have e1 : ¬ (n : Int) < 1 := by omega
  have e2 : ¬ (65536 : Int) < n := by omega
  have hmk : ∀ w : World, (Instr.makeSlice 22 (.int .i64 256) (.int .i64 256)).run Try.prog w = .ok (.slice (some ⟨w.heap.size, 0, none⟩) 256 256) (w.alloc (.cells (zrow 256 (.int .u8 0)) 5)) := run_mk1 elU8 .i64 .i64 256 (by decide) (by decide)
  go_enter Try.func20, Try.ntmps20
  rw [hold 3, hold 8]
  go_wp2_with (refine wpList_alloc rfl _ rfl zeroRD ?_; intro g2 w2 hg2 hg2' hblk2 hb2)
  refine wp_hold ?_
  go_wp2_with (first
    | ((with_reducible refine wpAtC ?_); refine wpList_gives rfl (gives_buildP tRD _ rfl [(2, .int .i64 (-1))] rfl bltRD1 (S := fun v w' => v = .agg (rcs none 0 0 none 0 0 (-1) false).toArray ∧ w' = _) ⟨rfl, rfl⟩) ?_; rintro v9 w9 ⟨rfl, rfl⟩; simp only [Act.put, List.setIfInBounds_toArray, List.set_cons_succ, List.set_cons_zero])
    | (refine wpList_alloc rfl _ rfl zeroRD ?_; intro g4 w4 hg4 hg4' hblk4 hb4; have hne4 : g2 ≠ g4 := Nat.ne_of_lt (Nat.lt_of_lt_of_le hg2' hg4); have hb24 := bx_trans hb2 hb4; have hblk24 := hblk2.below hb4 hg2'; have hw4 := Nat.le_trans hb2.size hg4)
    | ((with_reducible refine wpAtC ?_); refine wpList_store_agg rfl _ _ _ rfl _ _ rfl (rcs none 0 0 none 0 0 (-1) false).toArray rfl aggRD hblk4 (Nat.le_refl 4) oneRD ?_; intro w5 hp5))
  have hb5 := bx_put hb24 hp5 hw4
  have hblk5 := hp5.blk
  have hblk25 := hp5.other hblk24 hne4
  have hown0 := World.ownsRow_nil w5 w5.heap.size tStr 1
  have hmp : 0 < n := by omega
  have hs5 := hb5.size
  go_loopw [5] (fun v5 wr => ∃ (k : Nat) (A : Option Addr) (c : Nat), k ≤ n ∧ v5 = .int .i64 (k : Int) ∧ Blk wr g2 tRD (rcs none 0 0 none 0 0 0 false).toArray ∧ Blk wr g4 tRD (rcs A k c none 0 0 (-1) false).toArray ∧ wr.ownsRow w5.heap.size tStr 1 (.slice A k c) k (List.replicate k (sval zeros)) ∧ Below w.heap.size w wr ∧ w5.heap.size ≤ wr.heap.size) (fun v5 _ => ((n : Int) - intOf v5).toNat)
  case atStart => exact ⟨0, none, 0, Nat.zero_le _, rfl, hblk25, hblk5, hown0, hb5, Nat.le_refl _⟩
  case round =>
    obtain ⟨k, A, c, hk, rfl, h2r, h4r, hown, hbr, hws⟩ := hrel
    rename World => wr
    have d0 := cellD0 h4r
    have hl4 := h4r.lt
    by_cases hkn : k < n
    · have hki : (k : Int) < (n : Int) := by omega
      have h63 : k + 1 ≤ maxLen := by unfold maxLen; omega
      have hby : (k + 1) * 16 ≤ 140737488355328 := by omega
      have H2 := hid h2r
      have H4 := hid h4r
      have HB := hid hbr
      have HO := hid hown
      clear hblk2 hblk25 hblk5 hp5 hblk24 hb24 hb5 hblk4 hb4 h2r h4r hbr hown hown0
      go_wp2_with fail
      refine wp_flowQ (by kernel_rfl) [0, 1, 0, 4, 12, 31, 63, 127] 5 [false, false, false, false, false, false, false, false, false, false, false, false, false, false, false, false, false, false, false, true, true, true, true, true, true, false] (by kernel_rfl) (by decide) (by kernel_rfl) [FP.eq (.pointer (some ⟨g4, 0, none⟩)), FP.eq (.slice A k c), FP.bytes zeros, FP.eq (.string ⟨zeros.toArray⟩), FP.sl 1 [sval zeros]] (fun v w2 => ∃ g' c', v = .slice (some ⟨g', 0, none⟩) (k + 1) c' ∧ w2.ownsRow w5.heap.size tStr 1 (.slice (some ⟨g', 0, none⟩) (k + 1) c') (k + 1) (List.replicate (k + 1) (sval zeros)) ∧ Below w.heap.size w w2 ∧ w5.heap.size ≤ w2.heap.size ∧ Blk w2 g2 tRD (rcs none 0 0 none 0 0 0 false).toArray ∧ Blk w2 g4 tRD (rcs A k c none 0 0 (-1) false).toArray) ?_ (q_of rfl ⟨rfl, ?_⟩) ?_
      · refine allFrom_cons (stepQ_yes (by kernel_rfl) ?_) ?_
        · intro a_ w_ hk_
          have h4 : a_.eval (.tmp 4) = .pointer (some ⟨g4, 0, none⟩) := hk_.old 4 (by kernel_rfl)
          have hx_ := hk_.ext
          clear hk_
          refine flow_plain rfl ?_
          unfold gives
          have hc_ : ∀ v, a_.eval (.const v) = v := fun _ => rfl
          have hn_ : ∀ f, a_.eval (.func f) = .func (.func f) #[] #[] := fun _ => rfl
          generalize a_.eval = ρ_ at *
          go_simp
          exact ⟨Below.refl _ _, rfl⟩
        refine allFrom_cons (stepQ_yes (by kernel_rfl) ?_) ?_
        · intro a_ w_ hk_
          have h19 : a_.eval (.tmp 19) = (.pointer (some ⟨g4, 0, none⟩)) := hk_.got 0 19 _ (by kernel_rfl) rfl rfl
          have hx_ := hk_.ext
          clear hk_
          refine flow_plain rfl ?_
          unfold gives
          have hc_ : ∀ v, a_.eval (.const v) = v := fun _ => rfl
          have hn_ : ∀ f, a_.eval (.func f) = .func (.func f) #[] #[] := fun _ => rfl
          have hcell := (hx_.cell (p := ⟨g4, 0, none⟩) hl4).trans d0
          generalize a_.eval = ρ_ at *
          go_simp
          exact ⟨Below.refl _ _, rfl⟩
        refine allFrom_cons (stepQ_yes (by kernel_rfl) ?_) ?_
        · intro a_ w_ hk_
          have hx_ := hk_.ext
          clear hk_
          refine flow_plain rfl ?_
          unfold gives
          have hc_ : ∀ v, a_.eval (.const v) = v := fun _ => rfl
          have hn_ : ∀ f, a_.eval (.func f) = .func (.func f) #[] #[] := fun _ => rfl
          generalize a_.eval = ρ_ at *
          go_simp
          exact zrow_zeros (w := w_)
        refine allFrom_cons (stepQ_yes (by kernel_rfl) ?_) ?_
        · intro a_ w_ hk_
          have h21 : (FP.bytes zeros).p (a_.eval (.tmp 21)) w_ := hk_.got 2 21 _ (by kernel_rfl) rfl rfl
          have hx_ := hk_.ext
          clear hk_
          refine flow_plain rfl ?_
          unfold gives
          have hc_ : ∀ v, a_.eval (.const v) = v := fun _ => rfl
          have hn_ : ∀ f, a_.eval (.func f) = .func (.func f) #[] #[] := fun _ => rfl
          obtain ⟨A21, c21, h21, m21, r21⟩ := h21
          have hcv := conv_str (P := Try.prog) Try.underlying22 Try.underlying5 Try.underlying9 c21 r21
          generalize a_.eval = ρ_ at *
          go_simp
          exact ⟨Below.refl _ _, rfl⟩
        refine allFrom_cons (stepQ_yes (by kernel_rfl) ?_) ?_
        · intro a_ w_ hk_
          have h22 : a_.eval (.tmp 22) = (.string ⟨zeros.toArray⟩) := hk_.got 3 22 _ (by kernel_rfl) rfl rfl
          have hx_ := hk_.ext
          clear hk_
          refine flow_plain rfl ?_
          exact gives_slice1 _ _ rfl _ h22 elStr rfl (by decide) (sl_new rfl)
        exact allFrom_nil
      · intro a_ w_ hk_
        have h20 : a_.eval (.tmp 20) = (.slice A k c) := hk_.got 1 20 _ (by kernel_rfl) rfl rfl
        have h23 : (FP.sl 1 [sval zeros]).p (a_.eval (.tmp 23)) w_ := hk_.got 4 23 _ (by kernel_rfl) rfl rfl
        have hx_ := hk_.ext
        clear hk_
        obtain ⟨A23, c23, h23, r23⟩ := h23
        have h4w := H4.out.below hx_ hl4
        have h2w := H2.out.below hx_ H2.out.lt
        have hbw := bx_trans HB.out hx_
        have how := own_keep HO.out hx_
        refine gives_appK _ _ _ rfl (.slice A k c) h20 A23 1 c23 h23 elStr how r23 rfl (one_sval [zeros]) h63 hby (Nat.le_trans hws hx_.size) fun v' w' hown2 hg2 _ => ?_
        obtain ⟨g', cap', rfl, _⟩ := own_block hown2 (Nat.succ_pos k)
        have hnd : ∀ g cs, Blk w_ g tRD cs → Blk w' g tRD cs := fun g cs hb => grown_blk how hg2 hb (by decide)
        exact ⟨g', cap', rfl, by rw [List.replicate_succ']; exact hown2, own_below hbw (own_more how hs5) hg2, Nat.le_trans hws (Nat.le_trans hx_.size hg2.size), hnd _ _ h2w, hnd _ _ h4w⟩
      intro f_ w_ hf_ ht_
      have h19 : f_ 19 = (.pointer (some ⟨g4, 0, none⟩)) := (hf_ 0 19 _ (by decide) rfl rfl).elim fun _ h => h
      have h20 : f_ 20 = (.slice A k c) := (hf_ 1 20 _ (by decide) rfl rfl).elim fun _ h => h
      have h22 : f_ 22 = (.string ⟨zeros.toArray⟩) := (hf_ 3 22 _ (by decide) rfl rfl).elim fun _ h => h
      have ht := ht_ 24 _ rfl rfl
      clear ht_
      simp only [mix, List.drop_succ_cons, List.drop_zero, h19, h20, h22]
      clear h19 h20 h22
      clear hf_
      obtain ⟨g', c', h24, hown2, hbw2, hws2, h2w, h4w⟩ := ht
      rw [h24]
      have hP := setD0 h4w (some ⟨g', 0, none⟩) (k + 1) c'
      have h2P := hP.other h2w hne4
      have hoP := own_put hown2 h4w hP (by decide)
      have f0 := h4w.frozen 0
      have c0 := cellD0 h4w
      have hbP := bx_put hbw2 hP hw4
      have HR := hid (show ∃ (k' : Nat) (A : Option Addr) (c : Nat), k' ≤ n ∧ Value.int .i64 ((k + 1 : Nat) : Int) = .int .i64 (k' : Int) ∧ Blk (w_.setCell ⟨g4, 0, none⟩ (.slice (some ⟨g', 0, none⟩) (k + 1) c')) g2 tRD (rcs none 0 0 none 0 0 0 false).toArray ∧ Blk (w_.setCell ⟨g4, 0, none⟩ (.slice (some ⟨g', 0, none⟩) (k + 1) c')) g4 tRD (rcs A k' c none 0 0 (-1) false).toArray ∧ (w_.setCell ⟨g4, 0, none⟩ (.slice (some ⟨g', 0, none⟩) (k + 1) c')).ownsRow w5.heap.size tStr 1 (.slice A k' c) k' (List.replicate k' (sval zeros)) ∧ Below w.heap.size w (w_.setCell ⟨g4, 0, none⟩ (.slice (some ⟨g', 0, none⟩) (k + 1) c')) ∧ w5.heap.size ≤ (w_.setCell ⟨g4, 0, none⟩ (.slice (some ⟨g', 0, none⟩) (k + 1) c')).heap.size from
        ⟨k + 1, some ⟨g', 0, none⟩, c', hkn, rfl, h2P, hP.blk, hoP, hbP, by rw [hP.size]; exact hws2⟩)
      go_wp2_with fail
      refine ⟨HR.out, ?_⟩
      show ((n : Int) - ((k : Int) + 1)).toNat < ((n : Int) - (k : Int)).toNat
      omega
    · obtain rfl : k = n := by omega
      have hki : ¬ (k : Int) < (k : Int) := by omega
      go_wp2_with fail
      refine wp_hold ?_
      go_wp2_with (first
        | ((with_reducible refine wpAtC ?_); refine wpList_load_agg rfl _ _ rfl _ _ rfl (rcs A k c none 0 0 (-1) false) aggRD (blk_cells h4r) ?_)
        | ((with_reducible refine wpAtC ?_); refine wpList_store_agg rfl _ _ _ rfl _ _ rfl (rcs A k c none 0 0 (-1) false).toArray rfl aggRD h2r (Nat.le_refl 4) oneRD ?_; intro w6 hp6))
      refine bodyPost_ret (results_agg2 rfl rfl (aggRD (A := A) (n := k) (c := c) (A2 := none) (m := 0) (c2 := 0) (f := -1) (d := false)) (blk_cells hp6.blk)) rfl ?_
      have ho6 := own_put hown h2r hp6 (by decide)
      obtain ⟨A', c', e1', e2', e3', e4'⟩ := own_form ho6
      injection e1' with e1' _ e1''
      subst e1' e1''
      exact ⟨A, c, rfl, ⟨by rw [rGood_new]; exact e4', e2', e3', .inl rfl, Nat.le_refl _, Nat.zero_le _, own_ty ho6, TyA.nil _ _⟩, bx_put hbr hp6 hg2⟩
end Go.Proofs.Ytnbjoebdbbhbkaa
