
/- alike: is a disk the document's? -/
import Derived.Test.YtnbjoebdbbhbkaaDPf
namespace Go.Proofs.Ytnbjoebdbbhbkaa
open Go.RowKit
set_option linter.unusedVariables false
set_option maxRecDepth 100000 in
set_option maxHeartbeats 4000000 in
theorem alike_any (w : World) {B g : Nat} {D : DS} (h : IsDisk w B g D) (hB : B ≤ w.heap.size) {A A2 : Option Addr} {c c2 : Nat} (hR : RefAt w D A c A2 c2) (hn : D.n ≤ 100) (hl : D.loose.length ≤ 1000) :
    Calls Try.prog 25 #[.pointer (some ⟨g, 0, none⟩), .agg (rcs A D.n c A2 D.loose.length c2 D.fails D.dead).toArray] w fun e w' => e = .returned (.bool true) ∧ Below w.heap.size w w' := by
  have hbx := Blk.new w tRD (rcs A D.n c A2 D.loose.length c2 D.fails D.dead).toArray
  have hb0 : Below w.heap.size w (w.alloc (.cells (rcs A D.n c A2 D.loose.length c2 D.fails D.dead).toArray tRD)) := bx_alloc (Below.refl _ _) _
  have lgx := hbx.lt
  have d0 := cellD0 hbx
  have d1 := cellD1 hbx
  have d3 := cellD3 hbx
  have hgm : c ≤ 9223372036854775807 := hR.gm
  have hlm : c2 ≤ 9223372036854775807 := hR.lm
  have hgc := hR.gc
  have hlc := hR.lc
  have H := hid (h.below hb0)
  have HR := hid (hR.below hb0)
  have HBX := hid hbx
  have HB0 := hid hb0
  have hB0 := Nat.le_trans hB hb0.size
  clear h hR hbx hb0
  go_enter Try.func25, Try.ntmps25
  go_wp2_with fail
  refine wp_flow (by kernel_rfl) [0, 1, 0, 4, 12, 31, 63, 127, 255, 127, 639, 2047, 4095, 8191, 16383, 32767, 16383, 81919, 212991, 524287, 1048575] 21 [false, false, false, false, false, false, false, false, false, false, true, true, true, true, true, true, true, true, true, true, true, true, true, true, true, true, true, true, true, true, true] (by kernel_rfl) (by decide) (by kernel_rfl) [FP.eq (.pointer (some ⟨g, 0, none⟩)), FP.eq (.int .i64 (D.n : Int)), FP.eq (.pointer (some ⟨w.heap.size, 0, none⟩)), FP.eq (.slice A D.n c), FP.eq (.int .i64 (D.n : Int)), FP.eq (.bool false), FP.eq (.bool false), FP.eq (.pointer (some ⟨g, 0, none⟩)), FP.eq (.bool D.dead), FP.eq (.pointer (some ⟨w.heap.size, 3, none⟩)), FP.eq (.bool D.dead), FP.eq (.bool false), FP.eq (.bool false), FP.eq (.bool false), FP.eq (.pointer (some ⟨g, 0, none⟩)), FP.eq (.int .i64 (D.loose.length : Int)), FP.eq (.pointer (some ⟨w.heap.size, 1, none⟩)), FP.eq (.slice A2 D.loose.length c2), FP.eq (.int .i64 (D.loose.length : Int)), FP.eq (.bool false), FP.eq (.bool false)] ?_ ?_
  · refine allFrom_cons ?_ ?_
    · intro a_ w_ hk_
      have h0 : a_.eval (.tmp 0) = .pointer (some ⟨g, 0, none⟩) := hk_.old 0 (by kernel_rfl)
      have hx_ := hk_.ext
      clear hk_
      refine flow_plain rfl ?_
      exact gives_move rfl ⟨Below.refl _ _, h0⟩
    refine allFrom_cons ?_ ?_
    · intro a_ w_ hk_
      have h10 : a_.eval (.tmp 10) = (.pointer (some ⟨g, 0, none⟩)) := hk_.got 0 10 _ (by kernel_rfl) rfl rfl
      have hx_ := hk_.ext
      clear hk_
      refine flow_plain rfl ?_
      unfold gives
      have hc_ : ∀ v, a_.eval (.const v) = v := fun _ => rfl
      have hn_ : ∀ f, a_.eval (.func f) = .func (.func f) #[] #[] := fun _ => rfl
      generalize a_.eval = ρ_ at *
      go_simp
      exact (Len_any w_ (H.out.below hx_)).mono fun e w' ⟨h1, h2⟩ => ⟨_, h1, h2 ▸ Below.refl _ _, rfl⟩
    refine allFrom_cons ?_ ?_
    · intro a_ w_ hk_
      have h3 : a_.eval (.tmp 3) = .pointer (some ⟨w.heap.size, 0, none⟩) := hk_.old 3 (by kernel_rfl)
      have hx_ := hk_.ext
      clear hk_
      refine flow_plain rfl ?_
      unfold gives
      have hc_ : ∀ v, a_.eval (.const v) = v := fun _ => rfl
      have hn_ : ∀ f, a_.eval (.func f) = .func (.func f) #[] #[] := fun _ => rfl
      generalize a_.eval = ρ_ at *
      go_simp
      exact ⟨Below.refl _ _, rfl⟩
    refine allFrom_cons ?_ ?_
    · intro a_ w_ hk_
      have h12 : a_.eval (.tmp 12) = (.pointer (some ⟨w.heap.size, 0, none⟩)) := hk_.got 2 12 _ (by kernel_rfl) rfl rfl
      have hx_ := hk_.ext
      clear hk_
      refine flow_plain rfl ?_
      unfold gives
      have hc_ : ∀ v, a_.eval (.const v) = v := fun _ => rfl
      have hn_ : ∀ f, a_.eval (.func f) = .func (.func f) #[] #[] := fun _ => rfl
      have hcell := (hx_.cell (p := ⟨w.heap.size, 0, none⟩) lgx).trans d0
      generalize a_.eval = ρ_ at *
      go_simp
      exact ⟨Below.refl _ _, rfl⟩
    refine allFrom_cons ?_ ?_
    · intro a_ w_ hk_
      have h13 : a_.eval (.tmp 13) = (.slice A D.n c) := hk_.got 3 13 _ (by kernel_rfl) rfl rfl
      have hx_ := hk_.ext
      clear hk_
      refine flow_plain rfl ?_
      unfold gives
      have hc_ : ∀ v, a_.eval (.const v) = v := fun _ => rfl
      have hn_ : ∀ f, a_.eval (.func f) = .func (.func f) #[] #[] := fun _ => rfl
      generalize a_.eval = ρ_ at *
      go_simp
      exact ⟨Below.refl _ _, rfl⟩
    refine allFrom_cons ?_ ?_
    · intro a_ w_ hk_
      have h11 : a_.eval (.tmp 11) = (.int .i64 (D.n : Int)) := hk_.got 1 11 _ (by kernel_rfl) rfl rfl
      have h14 : a_.eval (.tmp 14) = (.int .i64 (D.n : Int)) := hk_.got 4 14 _ (by kernel_rfl) rfl rfl
      have hx_ := hk_.ext
      clear hk_
      refine flow_plain rfl ?_
      unfold gives
      have hc_ : ∀ v, a_.eval (.const v) = v := fun _ => rfl
      have hn_ : ∀ f, a_.eval (.func f) = .func (.func f) #[] #[] := fun _ => rfl
      generalize a_.eval = ρ_ at *
      go_simp
      exact ⟨Below.refl _ _, rfl⟩
    refine allFrom_cons ?_ ?_
    · intro a_ w_ hk_
      have h15 : a_.eval (.tmp 15) = (.bool false) := hk_.got 5 15 _ (by kernel_rfl) rfl rfl
      have hx_ := hk_.ext
      clear hk_
      refine flow_plain rfl ?_
      exact gives_move rfl ⟨Below.refl _ _, h15⟩
    refine allFrom_cons ?_ ?_
    · intro a_ w_ hk_
      have h0 : a_.eval (.tmp 0) = .pointer (some ⟨g, 0, none⟩) := hk_.old 0 (by kernel_rfl)
      have hg_ : a_.eval (.tmp 16) = .bool false := hk_.got 6 16 _ (by kernel_rfl) rfl rfl
      have hy_ := hk_.want 6 _ 16 false rfl rfl hg_
      have hx_ := hk_.ext
      clear hk_
      refine flow_want rfl hy_ ?_
      exact gives_move rfl ⟨Below.refl _ _, h0⟩
    refine allFrom_cons ?_ ?_
    · intro a_ w_ hk_
      have h17 : a_.eval (.tmp 17) = (.pointer (some ⟨g, 0, none⟩)) := hk_.got 7 17 _ (by kernel_rfl) rfl rfl
      have hg_ : a_.eval (.tmp 16) = .bool false := hk_.got 6 16 _ (by kernel_rfl) rfl rfl
      have hy_ := hk_.want 6 _ 16 false rfl rfl hg_
      have hx_ := hk_.ext
      clear hk_
      refine flow_want rfl hy_ ?_
      unfold gives
      have hc_ : ∀ v, a_.eval (.const v) = v := fun _ => rfl
      have hn_ : ∀ f, a_.eval (.func f) = .func (.func f) #[] #[] := fun _ => rfl
      clear hy_ hg_
      generalize a_.eval = ρ_ at *
      go_simp
      exact (Dead_any w_ (H.out.below hx_)).mono fun e w' ⟨h1, h2⟩ => ⟨_, h1, h2 ▸ Below.refl _ _, rfl⟩
    refine allFrom_cons ?_ ?_
    · intro a_ w_ hk_
      have h3 : a_.eval (.tmp 3) = .pointer (some ⟨w.heap.size, 0, none⟩) := hk_.old 3 (by kernel_rfl)
      have hg_ : a_.eval (.tmp 16) = .bool false := hk_.got 6 16 _ (by kernel_rfl) rfl rfl
      have hy_ := hk_.want 6 _ 16 false rfl rfl hg_
      have hx_ := hk_.ext
      clear hk_
      refine flow_want rfl hy_ ?_
      unfold gives
      have hc_ : ∀ v, a_.eval (.const v) = v := fun _ => rfl
      have hn_ : ∀ f, a_.eval (.func f) = .func (.func f) #[] #[] := fun _ => rfl
      clear hy_ hg_
      generalize a_.eval = ρ_ at *
      go_simp
      exact ⟨Below.refl _ _, rfl⟩
    refine allFrom_cons ?_ ?_
    · intro a_ w_ hk_
      have h19 : a_.eval (.tmp 19) = (.pointer (some ⟨w.heap.size, 3, none⟩)) := hk_.got 9 19 _ (by kernel_rfl) rfl rfl
      have hg_ : a_.eval (.tmp 16) = .bool false := hk_.got 6 16 _ (by kernel_rfl) rfl rfl
      have hy_ := hk_.want 6 _ 16 false rfl rfl hg_
      have hx_ := hk_.ext
      clear hk_
      refine flow_want rfl hy_ ?_
      unfold gives
      have hc_ : ∀ v, a_.eval (.const v) = v := fun _ => rfl
      have hn_ : ∀ f, a_.eval (.func f) = .func (.func f) #[] #[] := fun _ => rfl
      clear hy_ hg_
      have hcell := (hx_.cell (p := ⟨w.heap.size, 3, none⟩) lgx).trans d3
      generalize a_.eval = ρ_ at *
      go_simp
      exact ⟨Below.refl _ _, rfl⟩
    refine allFrom_cons ?_ ?_
    · intro a_ w_ hk_
      have h18 : a_.eval (.tmp 18) = (.bool D.dead) := hk_.got 8 18 _ (by kernel_rfl) rfl rfl
      have h20 : a_.eval (.tmp 20) = (.bool D.dead) := hk_.got 10 20 _ (by kernel_rfl) rfl rfl
      have hg_ : a_.eval (.tmp 16) = .bool false := hk_.got 6 16 _ (by kernel_rfl) rfl rfl
      have hy_ := hk_.want 6 _ 16 false rfl rfl hg_
      have hx_ := hk_.ext
      clear hk_
      refine flow_want rfl hy_ ?_
      unfold gives
      have hc_ : ∀ v, a_.eval (.const v) = v := fun _ => rfl
      have hn_ : ∀ f, a_.eval (.func f) = .func (.func f) #[] #[] := fun _ => rfl
      clear hy_ hg_
      generalize a_.eval = ρ_ at *
      go_simp
      exact ⟨Below.refl _ _, rfl⟩
    refine allFrom_cons ?_ ?_
    · intro a_ w_ hk_
      have h16 : a_.eval (.tmp 16) = (.bool false) := hk_.got 6 16 _ (by kernel_rfl) rfl rfl
      have h21 : a_.eval (.tmp 21) = (.bool false) := hk_.got 11 21 _ (by kernel_rfl) rfl rfl
      have hx_ := hk_.ext
      clear hk_
      refine flow_plain rfl ?_
      exact gives_pick rfl h16 ⟨Below.refl _ _, h21⟩
    refine allFrom_cons ?_ ?_
    · intro a_ w_ hk_
      have h22 : a_.eval (.tmp 22) = (.bool false) := hk_.got 12 22 _ (by kernel_rfl) rfl rfl
      have hx_ := hk_.ext
      clear hk_
      refine flow_plain rfl ?_
      exact gives_move rfl ⟨Below.refl _ _, h22⟩
    refine allFrom_cons ?_ ?_
    · intro a_ w_ hk_
      have h0 : a_.eval (.tmp 0) = .pointer (some ⟨g, 0, none⟩) := hk_.old 0 (by kernel_rfl)
      have hg_ : a_.eval (.tmp 23) = .bool false := hk_.got 13 23 _ (by kernel_rfl) rfl rfl
      have hy_ := hk_.want 13 _ 23 false rfl rfl hg_
      have hx_ := hk_.ext
      clear hk_
      refine flow_want rfl hy_ ?_
      exact gives_move rfl ⟨Below.refl _ _, h0⟩
    refine allFrom_cons ?_ ?_
    · intro a_ w_ hk_
      have h24 : a_.eval (.tmp 24) = (.pointer (some ⟨g, 0, none⟩)) := hk_.got 14 24 _ (by kernel_rfl) rfl rfl
      have hg_ : a_.eval (.tmp 23) = .bool false := hk_.got 13 23 _ (by kernel_rfl) rfl rfl
      have hy_ := hk_.want 13 _ 23 false rfl rfl hg_
      have hx_ := hk_.ext
      clear hk_
      refine flow_want rfl hy_ ?_
      unfold gives
      have hc_ : ∀ v, a_.eval (.const v) = v := fun _ => rfl
      have hn_ : ∀ f, a_.eval (.func f) = .func (.func f) #[] #[] := fun _ => rfl
      clear hy_ hg_
      generalize a_.eval = ρ_ at *
      go_simp
      exact (Loose_any w_ (H.out.below hx_)).mono fun e w' ⟨h1, h2⟩ => ⟨_, h1, h2 ▸ Below.refl _ _, rfl⟩
    refine allFrom_cons ?_ ?_
    · intro a_ w_ hk_
      have h3 : a_.eval (.tmp 3) = .pointer (some ⟨w.heap.size, 0, none⟩) := hk_.old 3 (by kernel_rfl)
      have hg_ : a_.eval (.tmp 23) = .bool false := hk_.got 13 23 _ (by kernel_rfl) rfl rfl
      have hy_ := hk_.want 13 _ 23 false rfl rfl hg_
      have hx_ := hk_.ext
      clear hk_
      refine flow_want rfl hy_ ?_
      unfold gives
      have hc_ : ∀ v, a_.eval (.const v) = v := fun _ => rfl
      have hn_ : ∀ f, a_.eval (.func f) = .func (.func f) #[] #[] := fun _ => rfl
      clear hy_ hg_
      generalize a_.eval = ρ_ at *
      go_simp
      exact ⟨Below.refl _ _, rfl⟩
    refine allFrom_cons ?_ ?_
    · intro a_ w_ hk_
      have h26 : a_.eval (.tmp 26) = (.pointer (some ⟨w.heap.size, 1, none⟩)) := hk_.got 16 26 _ (by kernel_rfl) rfl rfl
      have hg_ : a_.eval (.tmp 23) = .bool false := hk_.got 13 23 _ (by kernel_rfl) rfl rfl
      have hy_ := hk_.want 13 _ 23 false rfl rfl hg_
      have hx_ := hk_.ext
      clear hk_
      refine flow_want rfl hy_ ?_
      unfold gives
      have hc_ : ∀ v, a_.eval (.const v) = v := fun _ => rfl
      have hn_ : ∀ f, a_.eval (.func f) = .func (.func f) #[] #[] := fun _ => rfl
      clear hy_ hg_
      have hcell := (hx_.cell (p := ⟨w.heap.size, 1, none⟩) lgx).trans d1
      generalize a_.eval = ρ_ at *
      go_simp
      exact ⟨Below.refl _ _, rfl⟩
    refine allFrom_cons ?_ ?_
    · intro a_ w_ hk_
      have h27 : a_.eval (.tmp 27) = (.slice A2 D.loose.length c2) := hk_.got 17 27 _ (by kernel_rfl) rfl rfl
      have hg_ : a_.eval (.tmp 23) = .bool false := hk_.got 13 23 _ (by kernel_rfl) rfl rfl
      have hy_ := hk_.want 13 _ 23 false rfl rfl hg_
      have hx_ := hk_.ext
      clear hk_
      refine flow_want rfl hy_ ?_
      unfold gives
      have hc_ : ∀ v, a_.eval (.const v) = v := fun _ => rfl
      have hn_ : ∀ f, a_.eval (.func f) = .func (.func f) #[] #[] := fun _ => rfl
      clear hy_ hg_
      generalize a_.eval = ρ_ at *
      go_simp
      exact ⟨Below.refl _ _, rfl⟩
    refine allFrom_cons ?_ ?_
    · intro a_ w_ hk_
      have h25 : a_.eval (.tmp 25) = (.int .i64 (D.loose.length : Int)) := hk_.got 15 25 _ (by kernel_rfl) rfl rfl
      have h28 : a_.eval (.tmp 28) = (.int .i64 (D.loose.length : Int)) := hk_.got 18 28 _ (by kernel_rfl) rfl rfl
      have hg_ : a_.eval (.tmp 23) = .bool false := hk_.got 13 23 _ (by kernel_rfl) rfl rfl
      have hy_ := hk_.want 13 _ 23 false rfl rfl hg_
      have hx_ := hk_.ext
      clear hk_
      refine flow_want rfl hy_ ?_
      unfold gives
      have hc_ : ∀ v, a_.eval (.const v) = v := fun _ => rfl
      have hn_ : ∀ f, a_.eval (.func f) = .func (.func f) #[] #[] := fun _ => rfl
      clear hy_ hg_
      generalize a_.eval = ρ_ at *
      go_simp
      exact ⟨Below.refl _ _, rfl⟩
    refine allFrom_cons ?_ ?_
    · intro a_ w_ hk_
      have h23 : a_.eval (.tmp 23) = (.bool false) := hk_.got 13 23 _ (by kernel_rfl) rfl rfl
      have h29 : a_.eval (.tmp 29) = (.bool false) := hk_.got 19 29 _ (by kernel_rfl) rfl rfl
      have hx_ := hk_.ext
      clear hk_
      refine flow_plain rfl ?_
      exact gives_pick rfl h23 ⟨Below.refl _ _, h29⟩
    exact allFrom_nil
  intro f_ w_ hx_ hf_
  have h10 : f_ 10 = (.pointer (some ⟨g, 0, none⟩)) := hf_ 0 10 _ (by decide) rfl rfl
  have h11 : f_ 11 = (.int .i64 (D.n : Int)) := hf_ 1 11 _ (by decide) rfl rfl
  have h12 : f_ 12 = (.pointer (some ⟨w.heap.size, 0, none⟩)) := hf_ 2 12 _ (by decide) rfl rfl
  have h13 : f_ 13 = (.slice A D.n c) := hf_ 3 13 _ (by decide) rfl rfl
  have h14 : f_ 14 = (.int .i64 (D.n : Int)) := hf_ 4 14 _ (by decide) rfl rfl
  have h15 : f_ 15 = (.bool false) := hf_ 5 15 _ (by decide) rfl rfl
  have h16 : f_ 16 = (.bool false) := hf_ 6 16 _ (by decide) rfl rfl
  have h17 : f_ 17 = (.pointer (some ⟨g, 0, none⟩)) := hf_ 7 17 _ (by decide) rfl rfl
  have h18 : f_ 18 = (.bool D.dead) := hf_ 8 18 _ (by decide) rfl rfl
  have h19 : f_ 19 = (.pointer (some ⟨w.heap.size, 3, none⟩)) := hf_ 9 19 _ (by decide) rfl rfl
  have h20 : f_ 20 = (.bool D.dead) := hf_ 10 20 _ (by decide) rfl rfl
  have h21 : f_ 21 = (.bool false) := hf_ 11 21 _ (by decide) rfl rfl
  have h22 : f_ 22 = (.bool false) := hf_ 12 22 _ (by decide) rfl rfl
  have h23 : f_ 23 = (.bool false) := hf_ 13 23 _ (by decide) rfl rfl
  have h24 : f_ 24 = (.pointer (some ⟨g, 0, none⟩)) := hf_ 14 24 _ (by decide) rfl rfl
  have h25 : f_ 25 = (.int .i64 (D.loose.length : Int)) := hf_ 15 25 _ (by decide) rfl rfl
  have h26 : f_ 26 = (.pointer (some ⟨w.heap.size, 1, none⟩)) := hf_ 16 26 _ (by decide) rfl rfl
  have h27 : f_ 27 = (.slice A2 D.loose.length c2) := hf_ 17 27 _ (by decide) rfl rfl
  have h28 : f_ 28 = (.int .i64 (D.loose.length : Int)) := hf_ 18 28 _ (by decide) rfl rfl
  have h29 : f_ 29 = (.bool false) := hf_ 19 29 _ (by decide) rfl rfl
  have h30 : f_ 30 = (.bool false) := hf_ 20 30 _ (by decide) rfl rfl
  simp only [mix, List.drop_succ_cons, List.drop_zero, h10, h11, h12, h13, h14, h15, h16, h17, h18, h19, h20, h21, h22, h23, h24, h25, h26, h27, h28, h29, h30]
  clear h10 h11 h12 h13 h14 h15 h16 h17 h18 h19 h20 h21 h22 h23 h24 h25 h26 h27 h28 h29 h30
  clear hf_
  have HBw := hid (bx_trans HB0.out hx_)
  have hblk := HBX.out.below hx_ lgx
  have HD := hid (H.out.below hx_)
  have HRR := hid (HR.out.below hx_)
  have hBw := Nat.le_trans hB0 hx_.size
  clear d0 d1 d3 HB0 HBX H HR hx_ lgx hB hB0
  obtain ⟨w1, hw1⟩ : ∃ w1, w1 = w_ := ⟨_, rfl⟩
  rw [← hw1] at HBw hblk HD HRR hBw ⊢
  clear hw1
  have d0 := cellD0 hblk
  go_wp2_with fail
  go_loopw [5] (fun v5 wr => ∃ z : Int, v5 = .int .i64 z ∧ -1 ≤ z ∧ z ≤ (D.n : Int) + 1 ∧ Below w1.heap.size w1 wr) (fun v5 _ => ((D.n : Int) + 1 - intOf v5).toNat)
  case atStart => exact ⟨-1, rfl, by omega, by omega, Below.refl _ _⟩
  case round =>
    obtain ⟨z, rfl, hz1, hz2, hbr⟩ := hrel
    rename World => wr
    have hblkr := hblk.below hbr hblk.lt
    have d0r := cellD0 hblkr
    have HBr := hid (bx_trans HBw.out hbr)
    have HBX := hid hbr
    have HDr := hid (HD.out.below hbr)
    have HRRr := hid (HRR.out.below hbr)
    have hBr := Nat.le_trans hBw hbr.size
    clear hbr d0
    by_cases hz : z ≤ (D.n : Int)
    · have hzw : IntKind.i64.wrap (z + 1) = z + 1 := i64_wrapS (by omega) (by omega)
      have HZ := hid hz
      go_wp2_with fail
      refine (Read_any wr HDr.out hBr z).mono ?_
      rintro e w3 ⟨v3, rfl, hv3, hb3⟩
      have hblk3 := hblkr.below hb3 hblkr.lt
      have HR3 := hid (HRRr.out.below hb3)
      clear hblkr d0r
      go_wp2_with ((with_reducible refine wpAtC ?_); refine wpList_load_agg rfl _ _ rfl _ _ rfl (rcs A D.n c A2 D.loose.length c2 D.fails D.dead) aggRD (blk_cells hblk3) ?_)
      refine (rRead_any w3 HR3.out hn hl z).mono ?_
      rintro e w4 ⟨rfl, hb4⟩
      obtain ⟨Av, cv, rfl, hcv, hrv, _⟩ := hv3.below hb4
      have hcs := conv_str (P := Try.prog) (src := 22) (dst := 9) (w := w4) Try.underlying22 Try.underlying5 Try.underlying9 cv hrv
      go_wp2_with fail
      have hzo := HZ.out
      exact ⟨⟨z + 1, rfl, by omega, by omega, bx_trans (HBX.out) (bx_trans hb3 hb4)⟩, by show ((D.n : Int) + 1 - (z + 1)).toNat < ((D.n : Int) + 1 - z).toNat; omega⟩
    · have hze : z = (D.n : Int) + 1 := by omega
      go_wp2_with fail
      exact bodyPost_ret (results_tmp rfl _ _ _) rfl ⟨rfl, HBr.out⟩
end Go.Proofs.Ytnbjoebdbbhbkaa
