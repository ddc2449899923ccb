
/- The document's answer for the disk: Write. -/
import Derived.Test.YtnbjoebdbbhbkaaDPb
namespace Go.Proofs.Ytnbjoebdbbhbkaa
open Go.RowKit
set_option linter.unusedVariables false
abbrev tSL : Nat := 43
def lcell (x : Int × List UInt8) : List Value := [.int .i64 x.1, sval x.2]
theorem elL : ElT Try.prog tSL tRL 2 24 (Value.agg (lcell (0, [])).toArray).cells := elT_of (z := .agg (lcell (0, [])).toArray) Try.underlying43 (by kernel_rfl) rfl (by decide)
theorem builtL (i : Int) (b : List UInt8) : Try.prog.built tRL [(0, .int .i64 i), (1, .string ⟨b.toArray⟩)] = some (lcell (i, b)).toArray := by kernel_rfl
theorem count_fields (D : DS) : (countD D).fails = rcountF D.fails ∧ (countD D).dead = rcountD D.fails D.dead ∧ countE D = rcountE D.fails := by
  unfold countD rcountF rcountD countE rcountE
  by_cases h : D.fails = 0
  · rw [if_pos h, if_pos h, if_pos h]; exact ⟨by rw [if_neg (by omega)], rfl, rfl⟩
  · rw [if_neg h, if_neg h, if_neg h]
    by_cases h1 : 0 < D.fails
    · rw [if_pos h1, if_pos h1]; exact ⟨rfl, rfl, rfl⟩
    · rw [if_neg h1, if_neg h1]; exact ⟨rfl, rfl, rfl⟩
theorem RefAt.of {w : World} {D D' : DS} {A A2 : Option Addr} {c c2 : Nat} (h : RefAt w D A c A2 c2) (hn : D'.n = D.n) (hg : D'.good = D.good) (hl : D'.loose = D.loose) : RefAt w D' A c A2 c2 := by
  have e : rGood D' = rGood D := by unfold rGood goodAt; rw [hn, hg]
  exact ⟨by rw [e]; exact h.g, by rw [hn]; exact h.gc, h.gm, by rw [hl]; exact h.l, by rw [hl]; exact h.lc, h.lm, h.go, h.lo⟩
theorem wpAtC {P : Program} {ops : Array Oper} {rest : List Oper} {o : Oper} {a : Act} {w : World} {Q : Exit → Act → World → Prop} (h : wpList P ops Q (o :: rest) a w) : wpList P ops Q (o :: rest) a w := h
theorem wpList_gives {P : Program} {ops : Array Oper} {rest : List Oper} {o : Oper} {a : Act} {w : World} {Q : Exit → Act → World → Prop} {S : Value → World → Prop} (hgd : o.guard = none) (hg : gives P o a w S) (h : ∀ v w', S v w' → wpList P ops Q rest (a.put o.dst v) w') : wpList P ops Q (o :: rest) a w :=
  wpList_plain hgd fun K hK => wp_of_gives hg fun v w' hs => hK _ _ (h v w' hs)
theorem own_put {w w1 : World} {base e size n g t : Nat} {v : Value} {xs : List Value} {cs cs' : Array Value} (h : w.ownsRow base e size v n xs) (hb : Blk w g t cs) (hp : Put w w1 g t cs') (ht : t ≠ e) : w1.ownsRow base e size v n xs := by
  refine ⟨h.1, h.2.imp id ?_⟩
  rintro ⟨g', cap, cur, rfl, h2, h3, h4⟩
  refine ⟨g', cap, cur, rfl, h2, (hp.oth g' ?_).trans h3, h4⟩
  rintro rfl
  unfold Blk at hb
  rw [hb] at h3
  injection h3 with h3
  injection h3 with _ h3
  exact ht h3
theorem one_lst (ls : List (Int × List UInt8)) : ∀ u ∈ lst ls, u.oneCell' = true := by
  intro u hu
  unfold lst at hu
  obtain ⟨x, _, hx⟩ := List.mem_flatMap.1 hu
  simp only [List.mem_cons, List.not_mem_nil, or_false] at hx
  rcases hx with rfl | rfl <;> rfl
theorem lst_snoc (ls : List (Int × List UInt8)) (x : Int × List UInt8) : lst (ls ++ [x]) = lst ls ++ lcell x := by simp [lst, lcell]
theorem lcell_rd {w : World} (x : Int × List UInt8) : Rd (w.alloc (.cells (lcell x).toArray tRL)) (w.alloc (.cells (lcell x).toArray tRL)).heap.size (some ⟨w.heap.size, 0, none⟩) (lcell x) := rd_of_row (heap_new rfl) rfl
set_option maxRecDepth 100000 in
set_option maxHeartbeats 4000000 in
theorem rWrite_any (w : World) {D : DS} {A A2 : Option Addr} {c c2 : Nat} (h : RefAt w D A c A2 c2) (hn : D.n ≤ 100) (hl : D.loose.length ≤ 1000) (hf : D.fails ≤ 9223372036854775807) (i : Int) (b : List UInt8) (hb : b.length ≤ 1000) :
    Calls Try.prog 21 #[.agg (rcs A D.n c A2 D.loose.length c2 D.fails D.dead).toArray, .int .i64 i, .string ⟨b.toArray⟩] w fun e w' => ∃ A3 c3,
      e = .returned (.tuple #[.agg (rcs A (writeD D i b).n c A3 (writeD D i b).loose.length c3 (writeD D i b).fails (writeD D i b).dead).toArray, .int .i64 (writeE D i b)]) ∧ RefAt w' (writeD D i b) A c A3 c3 ∧ Below w.heap.size w w' := by
  obtain ⟨R, hR⟩ : ∃ R, R = rcs A D.n c A2 D.loose.length c2 D.fails D.dead := ⟨_, rfl⟩
  have hbx := Blk.new w tRD (rcs A D.n c A2 D.loose.length c2 D.fails D.dead).toArray
  have hb0 : Below w.heap.size w (w.alloc (.cells (rcs A D.n c A2 D.loose.length c2 D.fails D.dead).toArray tRD)) := bx_alloc (Below.refl _ _) _
  have hgs : w.heap.size < (w.alloc (.cells (rcs A D.n c A2 D.loose.length c2 D.fails D.dead).toArray tRD)).heap.size := by simp
  have hgm : c ≤ 9223372036854775807 := h.gm
  have hlm : c2 ≤ 9223372036854775807 := h.lm
  have hgc := h.gc
  have hlc := h.lc
  have H := hid h
  have hsz : (⟨b.toArray⟩ : ByteArray).size = b.length := by simp [ByteArray.size]
  clear h hR R
  go_enter Try.func21, Try.ntmps21
  rw [hold 1, hold 3, hold 5, hold 7, hold 9, hold 10, hold 12, hold 13]
  go_wp2_with (refine wpList_alloc rfl _ rfl zeroRD ?_; intro g2 w2 hg2 hg2' hblk2 hb2; have hne2 : g2 ≠ w.heap.size := Nat.ne_of_gt (Nat.lt_of_lt_of_le hgs hg2); have hle2 : w.heap.size ≤ g2 := Nat.le_trans hb0.size hg2; have hbA := bx_trans hb0 hb2; have hblk1 := hbx.below hb2 hgs; have d3 := cellD3 hblk1; have l1 := hblk1.lt)
  refine wp_hold ?_
  cases hd : D.dead with
  | true =>
    have HWD := hid (show writeD D i b = D by unfold writeD; rw [hd]; rfl)
    have HWE := hid (show writeE D i b = 30 by unfold writeE; rw [hd]; rfl)
    have hB1 := hblk1
    have hB2 := hblk2
    have hbB := hbA
    rw [hd] at d3
    go_wp2_with (first
      | (refine wpList_load_agg rfl _ _ rfl _ _ rfl (rcs A D.n c A2 D.loose.length c2 D.fails D.dead) aggRD (blk_cells hB1) ?_)
      | (refine wpList_store_agg rfl _ _ _ rfl _ _ rfl (rcs A D.n c A2 D.loose.length c2 D.fails D.dead).toArray rfl aggRD hB2 (Nat.le_refl 4) oneRD ?_; intro w4 hp4))
    refine bodyPost_ret (results_agg2 rfl rfl (aggRD (A := A) (n := D.n) (c := c) (A2 := A2) (m := D.loose.length) (c2 := c2) (f := D.fails) (d := D.dead)) (blk_cells hp4.blk)) rfl ?_
    have hbE := bx_put hbB hp4 hle2
    exact ⟨A2, c2, by rw [HWD.out, HWE.out]; rfl, by rw [HWD.out]; exact H.out.below hbE, hbE⟩
  | false =>
    have d0 := cellD0 hblk1
    rw [hd] at d3
    have HB1 := hid hblk1
    have HB2 := hid hblk2
    have HBA := hid hbA
    by_cases ht : thereB D i = true
    · have hti : 0 ≤ i ∧ i < (D.n : Int) := by
        unfold thereB at ht
        simpa using ht
      obtain ⟨q, rfl⟩ := Int.eq_ofNat_of_zero_le hti.1
      have hqi : (q : Int) < (D.n : Int) := hti.2
      have HT := hid ht
      clear hti ht hblk1 hblk2 hbA hbx hb0 hb2
      go_wp2_with fail
      refine wp_hold (wp_region_lit ?_)
      refine wp_flowSE [0, 1, 3, 7, 15, 31, 63, 127, 255] 9 [false, false, false, false, false, false, false, false, false, false, false, false, false, true, true, true, true, true, true, true, true, true] (by kernel_rfl) (by kernel_rfl) (by kernel_rfl) [FP.eq (.int .i64 (q : Int)), FP.eq (.bool false), FP.eq (.bool false), FP.eq (.int .i64 (q : Int)), FP.eq (.pointer (some ⟨w.heap.size, 0, none⟩)), FP.eq (.slice A D.n c), FP.eq (.int .i64 (D.n : Int)), FP.eq (.bool false), FP.eq (.bool false)] ?_ ?_
      · refine allFrom_cons ?_ ?_
        · intro a_ w_ hk_
          have h1 : a_.eval (.tmp 1) = .int .i64 (q : Int) := hk_.old 1 (by kernel_rfl)
          have hx_ := hk_.ext
          clear hk_
          refine flow_plain rfl ?_
          exact gives_move rfl ⟨Below.refl _ _, h1⟩
        refine allFrom_cons ?_ ?_
        · intro a_ w_ hk_
          have h13 : a_.eval (.tmp 13) = (.int .i64 (q : Int)) := hk_.got 0 13 _ (by kernel_rfl) rfl rfl
          have hx_ := hk_.ext
          clear hk_
          refine flow_plain rfl ?_
          unfold gives
          have hc_ : ∀ v, a_.eval (.const v) = v := fun _ => rfl
          have hn_ : ∀ f, a_.eval (.func f) = .func (.func f) #[] #[] := fun _ => rfl
          generalize a_.eval = ρ_ at *
          go_simp
          first | exact ⟨Below.refl _ _, rfl⟩ | exact ⟨Below.refl _ _, congrArg Value.bool (decide_eq_false (by omega))⟩
        refine allFrom_cons ?_ ?_
        · intro a_ w_ hk_
          have h14 : a_.eval (.tmp 14) = (.bool false) := hk_.got 1 14 _ (by kernel_rfl) rfl rfl
          have hx_ := hk_.ext
          clear hk_
          refine flow_plain rfl ?_
          exact gives_move rfl ⟨Below.refl _ _, h14⟩
        refine allFrom_cons ?_ ?_
        · intro a_ w_ hk_
          have h1 : a_.eval (.tmp 1) = .int .i64 (q : Int) := hk_.old 1 (by kernel_rfl)
          have hg_ : a_.eval (.tmp 15) = .bool false := hk_.got 2 15 _ (by kernel_rfl) rfl rfl
          have hy_ := hk_.want 2 _ 15 false rfl rfl hg_
          have hx_ := hk_.ext
          clear hk_
          refine flow_want rfl hy_ ?_
          exact gives_move rfl ⟨Below.refl _ _, h1⟩
        refine allFrom_cons ?_ ?_
        · intro a_ w_ hk_
          have h3 : a_.eval (.tmp 3) = .pointer (some ⟨w.heap.size, 0, none⟩) := hk_.old 3 (by kernel_rfl)
          have hg_ : a_.eval (.tmp 15) = .bool false := hk_.got 2 15 _ (by kernel_rfl) rfl rfl
          have hy_ := hk_.want 2 _ 15 false rfl rfl hg_
          have hx_ := hk_.ext
          clear hk_
          refine flow_want rfl hy_ ?_
          unfold gives
          have hc_ : ∀ v, a_.eval (.const v) = v := fun _ => rfl
          have hn_ : ∀ f, a_.eval (.func f) = .func (.func f) #[] #[] := fun _ => rfl
          clear hy_ hg_
          generalize a_.eval = ρ_ at *
          go_simp
          exact ⟨Below.refl _ _, rfl⟩
        refine allFrom_cons ?_ ?_
        · intro a_ w_ hk_
          have h17 : a_.eval (.tmp 17) = (.pointer (some ⟨w.heap.size, 0, none⟩)) := hk_.got 4 17 _ (by kernel_rfl) rfl rfl
          have hg_ : a_.eval (.tmp 15) = .bool false := hk_.got 2 15 _ (by kernel_rfl) rfl rfl
          have hy_ := hk_.want 2 _ 15 false rfl rfl hg_
          have hx_ := hk_.ext
          clear hk_
          refine flow_want rfl hy_ ?_
          unfold gives
          have hc_ : ∀ v, a_.eval (.const v) = v := fun _ => rfl
          have hn_ : ∀ f, a_.eval (.func f) = .func (.func f) #[] #[] := fun _ => rfl
          clear hy_ hg_
          have hcell := (hx_.cell (p := ⟨w.heap.size, 0, none⟩) l1).trans d0
          generalize a_.eval = ρ_ at *
          go_simp
          exact ⟨Below.refl _ _, rfl⟩
        refine allFrom_cons ?_ ?_
        · intro a_ w_ hk_
          have h18 : a_.eval (.tmp 18) = (.slice A D.n c) := hk_.got 5 18 _ (by kernel_rfl) rfl rfl
          have hg_ : a_.eval (.tmp 15) = .bool false := hk_.got 2 15 _ (by kernel_rfl) rfl rfl
          have hy_ := hk_.want 2 _ 15 false rfl rfl hg_
          have hx_ := hk_.ext
          clear hk_
          refine flow_want rfl hy_ ?_
          unfold gives
          have hc_ : ∀ v, a_.eval (.const v) = v := fun _ => rfl
          have hn_ : ∀ f, a_.eval (.func f) = .func (.func f) #[] #[] := fun _ => rfl
          clear hy_ hg_
          generalize a_.eval = ρ_ at *
          go_simp
          exact ⟨Below.refl _ _, rfl⟩
        refine allFrom_cons ?_ ?_
        · intro a_ w_ hk_
          have h16 : a_.eval (.tmp 16) = (.int .i64 (q : Int)) := hk_.got 3 16 _ (by kernel_rfl) rfl rfl
          have h19 : a_.eval (.tmp 19) = (.int .i64 (D.n : Int)) := hk_.got 6 19 _ (by kernel_rfl) rfl rfl
          have hg_ : a_.eval (.tmp 15) = .bool false := hk_.got 2 15 _ (by kernel_rfl) rfl rfl
          have hy_ := hk_.want 2 _ 15 false rfl rfl hg_
          have hx_ := hk_.ext
          clear hk_
          refine flow_want rfl hy_ ?_
          unfold gives
          have hc_ : ∀ v, a_.eval (.const v) = v := fun _ => rfl
          have hn_ : ∀ f, a_.eval (.func f) = .func (.func f) #[] #[] := fun _ => rfl
          clear hy_ hg_
          generalize a_.eval = ρ_ at *
          go_simp
          first | exact ⟨Below.refl _ _, rfl⟩ | exact ⟨Below.refl _ _, congrArg Value.bool (decide_eq_false (by omega))⟩
        refine allFrom_cons ?_ ?_
        · intro a_ w_ hk_
          have h15 : a_.eval (.tmp 15) = (.bool false) := hk_.got 2 15 _ (by kernel_rfl) rfl rfl
          have h20 : a_.eval (.tmp 20) = (.bool false) := hk_.got 7 20 _ (by kernel_rfl) rfl rfl
          have hx_ := hk_.ext
          clear hk_
          refine flow_plain rfl ?_
          exact gives_pick rfl h15 ⟨Below.refl _ _, h20⟩
        exact allFrom_nil
      intro f_ w_ hx_ hf_
      have h13 : f_ 13 = (.int .i64 (q : Int)) := hf_ 0 13 _ (by decide) rfl rfl
      have h14 : f_ 14 = (.bool false) := hf_ 1 14 _ (by decide) rfl rfl
      have h15 : f_ 15 = (.bool false) := hf_ 2 15 _ (by decide) rfl rfl
      have h16 : f_ 16 = (.int .i64 (q : Int)) := hf_ 3 16 _ (by decide) rfl rfl
      have h17 : f_ 17 = (.pointer (some ⟨w.heap.size, 0, none⟩)) := hf_ 4 17 _ (by decide) rfl rfl
      have h18 : f_ 18 = (.slice A D.n c) := hf_ 5 18 _ (by decide) rfl rfl
      have h19 : f_ 19 = (.int .i64 (D.n : Int)) := hf_ 6 19 _ (by decide) rfl rfl
      have h20 : f_ 20 = (.bool false) := hf_ 7 20 _ (by decide) rfl rfl
      have h21 : f_ 21 = (.bool false) := hf_ 8 21 _ (by decide) rfl rfl
      simp only [mix, h13, h14, h15, h16, h17, h18, h19, h20, h21]
      clear h13 h14 h15 h16 h17 h18 h19 h20 h21
      clear hf_
      obtain ⟨w3, hw3⟩ : ∃ w3, w3 = w_ := ⟨_, rfl⟩
      rw [← hw3] at hx_ ⊢
      clear hw3
      have hB1 := HB1.out.below hx_ l1
      have hB2 := HB2.out.below hx_ hg2'
      have hbB := bx_trans HBA.out hx_
      by_cases hb256 : b.length = 256
      · obtain ⟨bl, hbl⟩ : ∃ bl : Int, bl = (b.length : Int) := ⟨_, rfl⟩
        have HBL := hid hbl.symm
        have HEN := hid (show (bl != 256) = false by simp; omega)
        have HB256 := hid hb256
        clear hsz hb256 hbl
        obtain ⟨D1, hD1⟩ : ∃ D1, D1 = countD D := ⟨_, rfl⟩
        have hcf := count_fields D
        have hn1 := countD_n D
        have hl1 := countD_loose D
        have hg1 := countD_good D
        rw [← hD1, hd] at hcf
        rw [← hD1] at hn1 hl1 hg1
        have HD1 := hid hD1
        clear hD1
        have HCNT := hid (fun W => by
          have := rcount_any W A A2 D.n c D.loose.length c2 D.fails false hf
          rw [← hcf.1, ← hcf.2.1, ← hcf.2.2] at this
          exact this)
        have HN1 := hid hn1
        have HL1 := hid hl1
        have lB1 := hB1.lt
        have lB2 := hB2.lt
        clear hx_ HB1 HB2 HBA d3 d0 hcf
        go_wp2_with fail
        refine wp_hold (wp_region_lit ?_)
        refine wp_flowSE [0, 1, 3] 3 [false, false, false, false, false, false, false, false, false, false, false, false, false, false, false, false, false, false, false, false, false, false, false, true, true, true] (by kernel_rfl) (by kernel_rfl) (by kernel_rfl) [FP.eq (.string ⟨b.toArray⟩), FP.eq (.int .i64 bl), FP.eq (.bool false)] ?_ ?_
        · refine allFrom_cons ?_ ?_
          · intro a_ w_ hk_
            have h2 : a_.eval (.tmp 2) = .string ⟨b.toArray⟩ := hk_.old 2 (by kernel_rfl)
            have hx_ := hk_.ext
            clear hk_
            refine flow_plain rfl ?_
            exact gives_move rfl ⟨Below.refl _ _, h2⟩
          refine allFrom_cons ?_ ?_
          · intro a_ w_ hk_
            have h23 : a_.eval (.tmp 23) = (.string ⟨b.toArray⟩) := hk_.got 0 23 _ (by kernel_rfl) rfl rfl
            have hx_ := hk_.ext
            clear hk_
            refine flow_plain rfl ?_
            unfold gives
            have hc_ : ∀ v, a_.eval (.const v) = v := fun _ => rfl
            have hn_ : ∀ f, a_.eval (.func f) = .func (.func f) #[] #[] := fun _ => rfl
            generalize a_.eval = ρ_ at *
            go_simp
            exact ⟨Below.refl _ _, congrArg (Value.int _) HBL.out⟩
          refine allFrom_cons ?_ ?_
          · intro a_ w_ hk_
            have h24 : a_.eval (.tmp 24) = (.int .i64 bl) := hk_.got 1 24 _ (by kernel_rfl) rfl rfl
            have hx_ := hk_.ext
            clear hk_
            refine flow_plain rfl ?_
            unfold gives
            have hc_ : ∀ v, a_.eval (.const v) = v := fun _ => rfl
            have hn_ : ∀ f, a_.eval (.func f) = .func (.func f) #[] #[] := fun _ => rfl
            generalize a_.eval = ρ_ at *
            go_simp
            exact ⟨Below.refl _ _, congrArg Value.bool HEN.out⟩
          exact allFrom_nil
        intro f_ w_ hx_ hf_
        have h23 : f_ 23 = (.string ⟨b.toArray⟩) := hf_ 0 23 _ (by decide) rfl rfl
        have h24 : f_ 24 = (.int .i64 bl) := hf_ 1 24 _ (by decide) rfl rfl
        have h25 : f_ 25 = (.bool false) := hf_ 2 25 _ (by decide) rfl rfl
        simp only [mix, h23, h24, h25]
        clear h23 h24 h25
        clear hf_
        obtain ⟨w3', hw3'⟩ : ∃ w, w = w_ := ⟨_, rfl⟩
        rw [← hw3'] at hx_ ⊢
        clear hw3'
        replace hB1 := hB1.below hx_ lB1
        replace hB2 := hB2.below hx_ lB2
        replace hbB := bx_trans hbB hx_
        replace lB1 := hB1.lt
        replace lB2 := hB2.lt
        clear hx_
        go_wp2_with fail
        refine wp_hold (wp_region_lit ?_)
        refine wp_flowS [0, 1, 3, 7, 15, 31, 63] 2 [false, false, false, false, false, false, false, false, false, false, false, false, false, false, false, false, false, false, false, false, false, false, false, false, false, false, false, false, true, true, false, false] (by kernel_rfl) (by decide) (by kernel_rfl) [FP.eq (.agg (rcs A D.n c A2 D.loose.length c2 D.fails D.dead).toArray), FP.eq (.tuple #[.agg (rcs A D.n c A2 D.loose.length c2 D1.fails D1.dead).toArray, .int .i64 (countE D)])] ?_ ?_
        · refine allFrom_cons ?_ ?_
          · intro a_ w_ hk_
            have h3 : a_.eval (.tmp 3) = .pointer (some ⟨w.heap.size, 0, none⟩) := hk_.old 3 (by kernel_rfl)
            have hx_ := hk_.ext
            clear hk_
            refine flow_plain rfl ?_
            exact gives_load_agg (x := .tmp 3) rfl h3 (cs := rcs A D.n c A2 D.loose.length c2 D.fails D.dead) aggRD (blk_cells (hB1.below hx_ lB1)) ⟨Below.refl _ _, rfl⟩
          refine allFrom_cons ?_ ?_
          · intro a_ w_ hk_
            have h28 : a_.eval (.tmp 28) = (.agg (rcs A D.n c A2 D.loose.length c2 D.fails D.dead).toArray) := hk_.got 0 28 _ (by kernel_rfl) rfl rfl
            have hx_ := hk_.ext
            clear hk_
            refine flow_plain rfl ?_
            unfold gives
            have hc_ : ∀ v, a_.eval (.const v) = v := fun _ => rfl
            have hn_ : ∀ f, a_.eval (.func f) = .func (.func f) #[] #[] := fun _ => rfl
            generalize a_.eval = ρ_ at *
            go_simp
            exact (HCNT.out w_).mono fun e w' ⟨h1, h2⟩ => ⟨_, h1, h2, rfl⟩
          exact allFrom_nil
        intro f_ w_ hx_ hf_
        have h28 : f_ 28 = (.agg (rcs A D.n c A2 D.loose.length c2 D.fails D.dead).toArray) := hf_ 0 28 _ (by decide) rfl rfl
        have h29 : f_ 29 = (.tuple #[.agg (rcs A D.n c A2 D.loose.length c2 D1.fails D1.dead).toArray, .int .i64 (countE D)]) := hf_ 1 29 _ (by decide) rfl rfl
        simp only [mix, h28, h29]
        clear h28 h29
        clear hf_
        obtain ⟨w5, hw5⟩ : ∃ w, w = w_ := ⟨_, rfl⟩
        rw [← hw5] at hx_ ⊢
        clear hw5
        have hb5 := hx_
        clear hx_
        have hB1' := hB1.below hb5 lB1
        have hB2' := hB2.below hb5 lB2
        have hbB' := bx_trans hbB hb5
        by_cases hf0 : D.fails = 0
        · have hce : countE D = 30 := by unfold countE; rw [if_pos hf0]
          have HWD := hid (show writeD D (q : Int) b = D1 by unfold writeD; rw [hd, if_neg (by decide), if_pos HT.out, if_pos HB256.out, if_neg (by rw [hce]; decide), HD1.out])
          have HWE := hid (show writeE D (q : Int) b = 30 by unfold writeE; rw [hd, if_neg (by decide), if_pos HT.out, if_pos HB256.out, hce])
          rw [hce]
          have HRA := hid ((H.out.of hn1 hg1 hl1))
          clear hce hf0 hB1 hB2 hbB hn1 hl1 hg1 HCNT
          go_wp2_with ((with_reducible refine wpAtC ?_); refine wpList_store_agg rfl _ _ _ rfl _ _ rfl (rcs A D.n c A2 D.loose.length c2 D1.fails D1.dead).toArray rfl aggRD hB1' (Nat.le_refl 4) oneRD ?_; intro w6 hp6)
          have hB16 : Blk w6 w.heap.size tRD (rcs A D.n c A2 D.loose.length c2 D1.fails D1.dead).toArray := hp6.blk
          have hB26 := hp6.other hB2' hne2
          refine wp_hold ?_
          go_wp2_with (first
            | ((with_reducible refine wpAtC ?_); refine wpList_load_agg rfl _ _ rfl _ _ rfl (rcs A D.n c A2 D.loose.length c2 D1.fails D1.dead) aggRD (blk_cells hB16) ?_)
            | ((with_reducible refine wpAtC ?_); refine wpList_store_agg rfl _ _ _ rfl _ _ rfl (rcs A D.n c A2 D.loose.length c2 D1.fails D1.dead).toArray rfl aggRD hB26 (Nat.le_refl 4) oneRD ?_; intro w4 hp4))
          refine bodyPost_ret (results_agg2 rfl rfl (aggRD (A := A) (n := D.n) (c := c) (A2 := A2) (m := D.loose.length) (c2 := c2) (f := D1.fails) (d := D1.dead)) (blk_cells hp4.blk)) rfl ?_
          have hbE := bx_put (bx_put hbB' hp6 (Nat.le_refl _)) hp4 hle2
          exact ⟨A2, c2, by rw [HWD.out, HWE.out, HN1.out, HL1.out]; rfl, by rw [HWD.out]; exact HRA.out.below hbE, hbE⟩
        · have hce : countE D = 0 := by unfold countE; rw [if_neg hf0]
          have HWD := hid (show writeD D (q : Int) b = { D1 with loose := D1.loose ++ [((q : Int), b)] } by unfold writeD; rw [hd, if_neg (by decide), if_pos HT.out, if_pos HB256.out, if_pos hce, HD1.out])
          have HWE := hid (show writeE D (q : Int) b = 0 by unfold writeE; rw [hd, if_neg (by decide), if_pos HT.out, if_pos HB256.out, hce])
          rw [hce]
          have HRA := hid ((H.out.of hn1 hg1 hl1))
          clear hce hf0 hB1 hB2 hbB hn1 hl1 hg1 HCNT
          go_wp2_with ((with_reducible refine wpAtC ?_); refine wpList_store_agg rfl _ _ _ rfl _ _ rfl (rcs A D.n c A2 D.loose.length c2 D1.fails D1.dead).toArray rfl aggRD hB1' (Nat.le_refl 4) oneRD ?_; intro w6 hp6)
          have hB16 : Blk w6 w.heap.size tRD (rcs A D.n c A2 D.loose.length c2 D1.fails D1.dead).toArray := hp6.blk
          have hB26 := hp6.other hB2' hne2
          have hb6 := bx_put hbB' hp6 (Nat.le_refl _)
          have hl6 := (HRA.out.below hb6).l
          rw [HL1.out] at hl6
          have d1 := cellD1 hB16
          have hll : (lst D.loose).length = D.loose.length * 2 := lst_len _
          have h63 : 0 + D.loose.length ≤ maxLen := by unfold maxLen; omega
          have hby : (0 + D.loose.length) * 24 ≤ 140737488355328 := by omega
          have hone := one_lst D.loose
          have hnil := World.ownsRow_nil w6 w6.heap.size tRL 2
          have HP6 := hid hp6
          clear hp6 hB1' hB2' hbB'
          have hst : ∀ (ops : Array Oper) (rest : List Oper) (o : Oper) (a : Act) (Q : Exit → Act → World → Prop), o.guard = none → ∀ s x, o.op = .call { callee := .builtin .append, args := #[s, x], argTypes := #[tSL, tSL] } → a.eval s = .slice none 0 0 → a.eval x = .slice A2 D.loose.length c2 → (∀ v' w', w'.ownsRow w6.heap.size tRL 2 v' (0 + D.loose.length) ([] ++ lst D.loose) → w6.grownBy w' (Value.slice none 0 0).ownBlock → wpList Try.prog ops Q rest (a.put o.dst v') w') → wpList Try.prog ops Q (o :: rest) a w6 :=
            fun ops rest o a Q h1 s x h2 h3 h4 h5 => wpList_app h1 s x tSL h2 (.slice none 0 0) h3 A2 D.loose.length c2 h4 elL hnil hl6 hll hone h63 hby (Nat.le_refl _) (fun v' w' q1 q2 _ => h5 v' w' q1 q2)
          refine wp_hold ?_
          go_wp2_with (at_builtin; refine hst _ _ _ _ _ rfl _ _ rfl rfl rfl ?_; intro v7 w7 hown7 hg7)
          have hb7 : Below w6.heap.size w6 w7 := own_below (Below.refl _ _) hnil hg7
          rw [Nat.zero_add, List.nil_append] at hown7
          have hba : Below w7.heap.size w7 (w7.alloc (.cells (lcell ((q : Int), b)).toArray tRL)) := bx_alloc (Below.refl _ _) _
          have hown8 := hown7.alloc (.cells (lcell ((q : Int), b)).toArray tRL)
          have hrd8 := lcell_rd (w := w7) ((q : Int), b)
          have hone8 : ∀ u ∈ lcell ((q : Int), b), u.oneCell' = true := by
            intro u hu
            simp only [lcell, List.mem_cons, List.not_mem_nil, or_false] at hu
            rcases hu with rfl | rfl <;> rfl
          have h638 : D.loose.length + 1 ≤ maxLen := by unfold maxLen; omega
          have hby8 : (D.loose.length + 1) * 24 ≤ 140737488355328 := by omega
          have hb8 := bx_trans hb7 hba
          have hbs8 := hb8.size
          have lB16 := hB16.lt
          have lB26 := hB26.lt
          refine wp_hold ?_
          go_wp2_with (first
            | ((with_reducible refine wpAtC ?_); refine wpList_gives rfl (gives_build tRL _ rfl [.int .i64 (q : Int), .string ⟨b.toArray⟩] rfl (builtL (q : Int) b) (S := fun v w' => v = .agg (lcell ((q : Int), b)).toArray ∧ w' = w7) ⟨rfl, rfl⟩) ?_; rintro v8 w8 ⟨rfl, rfl⟩; simp only [Act.put, List.setIfInBounds_toArray, List.set_cons_succ, List.set_cons_zero])
            | ((with_reducible refine wpAtC ?_); refine wpList_gives rfl (gives_slice1 tSL _ rfl (.agg (lcell ((q : Int), b)).toArray) rfl elL rfl (by decide) (S := fun v w' => v = .slice (some ⟨w7.heap.size, 0, none⟩) 1 1 ∧ w' = w7.alloc (.cells (lcell ((q : Int), b)).toArray tRL)) ⟨rfl, rfl⟩) ?_; rintro v9 w9 ⟨rfl, rfl⟩; simp only [Act.put, List.setIfInBounds_toArray, List.set_cons_succ, List.set_cons_zero])
            | (at_builtin; refine wpList_app rfl _ _ _ rfl v7 rfl _ 1 1 rfl elL hown8 hrd8 rfl hone8 h638 hby8 hbs8 ?_; intro v10 w10 hown10 hg10 hat10; have hb10 := own_below hb8 hown8 hg10; obtain ⟨g10, cap10, rfl, _, _, hcn, hcm⟩ := own_block hown10 (by omega); have hB17 := hB16.below hb10 lB16; have hB27 := hB26.below hb10 lB26; have d1' := cellD1 hB17; have f1 := hB17.frozen 1))
          have hP := setD1 hB17 (some ⟨g10, 0, none⟩) (D.loose.length + 1) cap10
          have hB28 := hP.other hB27 hne2
          refine wp_hold ?_
          go_wp2_with (first
            | ((with_reducible refine wpAtC ?_); refine wpList_load_agg rfl _ _ rfl _ _ rfl (rcs A D.n c (some ⟨g10, 0, none⟩) (D.loose.length + 1) cap10 D1.fails D1.dead) aggRD (blk_cells hP.blk) ?_)
            | ((with_reducible refine wpAtC ?_); refine wpList_store_agg rfl _ _ _ rfl _ _ rfl (rcs A D.n c (some ⟨g10, 0, none⟩) (D.loose.length + 1) cap10 D1.fails D1.dead).toArray rfl aggRD hB28 (Nat.le_refl 4) oneRD ?_; intro w4 hp4))
          refine bodyPost_ret (results_agg2 rfl rfl (aggRD (A := A) (n := D.n) (c := c) (A2 := some ⟨g10, 0, none⟩) (m := D.loose.length + 1) (c2 := cap10) (f := D1.fails) (d := D1.dead)) (blk_cells hp4.blk)) rfl ?_
          have hbE := bx_put (bx_put (hb6.trans (hb10.mono hb6.size)) hP (Nat.le_refl _)) hp4 hle2
          have ho1 := own_put hown10 hB17 hP (by decide)
          have ho2 := own_put ho1 hB28 hp4 (by decide)
          obtain ⟨A', c', e1, e2, e3, e4⟩ := own_form ho2
          injection e1 with e1 _ e1'
          subst e1 e1'
          have hRE := HRA.out.below hbE
          refine ⟨some ⟨g10, 0, none⟩, cap10, ?_, ?_, hbE⟩
          · rw [HWD.out, HWE.out]
            show _ = Ending.returned (.tuple #[.agg (rcs A D1.n c (some ⟨g10, 0, none⟩) (D1.loose ++ [((q : Int), b)]).length cap10 D1.fails D1.dead).toArray, .int .i64 0])
            rw [List.length_append, HL1.out, HN1.out]
            rfl
          · rw [HWD.out]
            refine ⟨hRE.g, hRE.gc, hRE.gm, ?_, ?_, e3, hRE.go, own_ty ho2⟩
            · show Rd w4 w4.heap.size _ (lst (D1.loose ++ [((q : Int), b)]))
              rw [lst_snoc, HL1.out]
              exact e4
            · show (D1.loose ++ [((q : Int), b)]).length ≤ cap10
              rw [List.length_append, HL1.out]
              exact e2
      · have HWD := hid (show writeD D (q : Int) b = D by unfold writeD; rw [hd, if_neg (by decide), if_pos HT.out, if_neg hb256])
        have HWE := hid (show writeE D (q : Int) b = 1 by unfold writeE; rw [hd, if_neg (by decide), if_pos HT.out, if_neg hb256])
        obtain ⟨bl, hbl⟩ : ∃ bl : Int, bl = (b.length : Int) := ⟨_, rfl⟩
        have HBL := hid hbl.symm
        have HEN := hid (show (bl != 256) = true by simp; omega)
        clear hbl hb256 hx_ HB1 HB2 HBA d3 d0
        have lB1 := hB1.lt
        have lB2 := hB2.lt
        go_wp2_with fail
        refine wp_hold (wp_region_lit ?_)
        refine wp_flowSE [0, 1, 3] 3 [false, false, false, false, false, false, false, false, false, false, false, false, false, false, false, false, false, false, false, false, false, false, false, true, true, true] (by kernel_rfl) (by kernel_rfl) (by kernel_rfl) [FP.eq (.string ⟨b.toArray⟩), FP.eq (.int .i64 bl), FP.eq (.bool true)] ?_ ?_
        · refine allFrom_cons ?_ ?_
          · intro a_ w_ hk_
            have h2 : a_.eval (.tmp 2) = .string ⟨b.toArray⟩ := hk_.old 2 (by kernel_rfl)
            have hx_ := hk_.ext
            clear hk_
            refine flow_plain rfl ?_
            exact gives_move rfl ⟨Below.refl _ _, h2⟩
          refine allFrom_cons ?_ ?_
          · intro a_ w_ hk_
            have h23 : a_.eval (.tmp 23) = (.string ⟨b.toArray⟩) := hk_.got 0 23 _ (by kernel_rfl) rfl rfl
            have hx_ := hk_.ext
            clear hk_
            refine flow_plain rfl ?_
            unfold gives
            have hc_ : ∀ v, a_.eval (.const v) = v := fun _ => rfl
            have hn_ : ∀ f, a_.eval (.func f) = .func (.func f) #[] #[] := fun _ => rfl
            generalize a_.eval = ρ_ at *
            go_simp
            exact ⟨Below.refl _ _, congrArg (Value.int _) HBL.out⟩
          refine allFrom_cons ?_ ?_
          · intro a_ w_ hk_
            have h24 : a_.eval (.tmp 24) = (.int .i64 bl) := hk_.got 1 24 _ (by kernel_rfl) rfl rfl
            have hx_ := hk_.ext
            clear hk_
            refine flow_plain rfl ?_
            unfold gives
            have hc_ : ∀ v, a_.eval (.const v) = v := fun _ => rfl
            have hn_ : ∀ f, a_.eval (.func f) = .func (.func f) #[] #[] := fun _ => rfl
            generalize a_.eval = ρ_ at *
            go_simp
            exact ⟨Below.refl _ _, congrArg Value.bool HEN.out⟩
          exact allFrom_nil
        intro f_ w_ hx_ hf_
        have h23 : f_ 23 = (.string ⟨b.toArray⟩) := hf_ 0 23 _ (by decide) rfl rfl
        have h24 : f_ 24 = (.int .i64 bl) := hf_ 1 24 _ (by decide) rfl rfl
        have h25 : f_ 25 = (.bool true) := hf_ 2 25 _ (by decide) rfl rfl
        simp only [mix, h23, h24, h25]
        clear h23 h24 h25
        clear hf_
        replace hB1 := hB1.below hx_ lB1
        replace hB2 := hB2.below hx_ lB2
        replace hbB := bx_trans hbB hx_
        go_wp2_with (first
          | (refine wpList_load_agg rfl _ _ rfl _ _ rfl (rcs A D.n c A2 D.loose.length c2 D.fails D.dead) aggRD (blk_cells hB1) ?_)
          | (refine wpList_store_agg rfl _ _ _ rfl _ _ rfl (rcs A D.n c A2 D.loose.length c2 D.fails D.dead).toArray rfl aggRD hB2 (Nat.le_refl 4) oneRD ?_; intro w4 hp4))
        refine bodyPost_ret (results_agg2 rfl rfl (aggRD (A := A) (n := D.n) (c := c) (A2 := A2) (m := D.loose.length) (c2 := c2) (f := D.fails) (d := D.dead)) (blk_cells hp4.blk)) rfl ?_
        have hbE := bx_put hbB hp4 hle2
        exact ⟨A2, c2, by rw [HWD.out, HWE.out]; rfl, by rw [HWD.out]; exact H.out.below hbE, hbE⟩
    · have HWD := hid (show writeD D i b = D by unfold writeD; rw [hd, if_neg (by decide), if_neg ht])
      have HWE := hid (show writeE D i b = 15 by unfold writeE; rw [hd, if_neg (by decide), if_neg ht])
      have hti : i < 0 ∨ (D.n : Int) ≤ i := by
        unfold thereB at ht
        simp at ht
        omega
      clear ht hblk1 hblk2 hbA hbx hb0 hb2
      by_cases hi0 : i < 0
      · go_wp2_with fail
        refine wp_hold (wp_region_lit ?_)
        refine wp_flowSE [0, 1, 3, 7, 15, 31, 63, 127, 255] 9 [false, false, false, false, false, false, false, false, false, false, false, false, false, true, true, true, true, true, true, true, true, true] (by kernel_rfl) (by kernel_rfl) (by kernel_rfl) [FP.eq (.int .i64 i), FP.eq (.bool true), FP.eq (.bool true), FP.any, FP.any, FP.any, FP.any, FP.any, FP.eq (.bool true)] ?_ ?_
        · refine allFrom_cons ?_ ?_
          · intro a_ w_ hk_
            have h1 : a_.eval (.tmp 1) = .int .i64 i := hk_.old 1 (by kernel_rfl)
            have hx_ := hk_.ext
            clear hk_
            refine flow_plain rfl ?_
            exact gives_move rfl ⟨Below.refl _ _, h1⟩
          refine allFrom_cons ?_ ?_
          · intro a_ w_ hk_
            have h13 : a_.eval (.tmp 13) = (.int .i64 i) := hk_.got 0 13 _ (by kernel_rfl) rfl rfl
            have hx_ := hk_.ext
            clear hk_
            refine flow_plain rfl ?_
            unfold gives
            have hc_ : ∀ v, a_.eval (.const v) = v := fun _ => rfl
            have hn_ : ∀ f, a_.eval (.func f) = .func (.func f) #[] #[] := fun _ => rfl
            generalize a_.eval = ρ_ at *
            go_simp
            first | exact ⟨Below.refl _ _, rfl⟩ | exact ⟨Below.refl _ _, congrArg Value.bool (decide_eq_true (by omega))⟩
          refine allFrom_cons ?_ ?_
          · intro a_ w_ hk_
            have h14 : a_.eval (.tmp 14) = (.bool true) := hk_.got 1 14 _ (by kernel_rfl) rfl rfl
            have hx_ := hk_.ext
            clear hk_
            refine flow_plain rfl ?_
            exact gives_move rfl ⟨Below.refl _ _, h14⟩
          refine allFrom_cons ?_ ?_
          · intro a_ w_ hk_
            have h1 : a_.eval (.tmp 1) = .int .i64 i := hk_.old 1 (by kernel_rfl)
            have hg_ : a_.eval (.tmp 15) = .bool true := hk_.got 2 15 _ (by kernel_rfl) rfl rfl
            have hy_ := hk_.want 2 _ 15 true rfl rfl hg_
            have hx_ := hk_.ext
            clear hk_
            exact flow_skip rfl hy_ (by decide) trivial
          refine allFrom_cons ?_ ?_
          · intro a_ w_ hk_
            have h3 : a_.eval (.tmp 3) = .pointer (some ⟨w.heap.size, 0, none⟩) := hk_.old 3 (by kernel_rfl)
            have hg_ : a_.eval (.tmp 15) = .bool true := hk_.got 2 15 _ (by kernel_rfl) rfl rfl
            have hy_ := hk_.want 2 _ 15 true rfl rfl hg_
            have hx_ := hk_.ext
            clear hk_
            exact flow_skip rfl hy_ (by decide) trivial
          refine allFrom_cons ?_ ?_
          · intro a_ w_ hk_
            have hg_ : a_.eval (.tmp 15) = .bool true := hk_.got 2 15 _ (by kernel_rfl) rfl rfl
            have hy_ := hk_.want 2 _ 15 true rfl rfl hg_
            have hx_ := hk_.ext
            clear hk_
            exact flow_skip rfl hy_ (by decide) trivial
          refine allFrom_cons ?_ ?_
          · intro a_ w_ hk_
            have hg_ : a_.eval (.tmp 15) = .bool true := hk_.got 2 15 _ (by kernel_rfl) rfl rfl
            have hy_ := hk_.want 2 _ 15 true rfl rfl hg_
            have hx_ := hk_.ext
            clear hk_
            exact flow_skip rfl hy_ (by decide) trivial
          refine allFrom_cons ?_ ?_
          · intro a_ w_ hk_
            have hg_ : a_.eval (.tmp 15) = .bool true := hk_.got 2 15 _ (by kernel_rfl) rfl rfl
            have hy_ := hk_.want 2 _ 15 true rfl rfl hg_
            have hx_ := hk_.ext
            clear hk_
            exact flow_skip rfl hy_ (by decide) trivial
          refine allFrom_cons ?_ ?_
          · intro a_ w_ hk_
            have h15 : a_.eval (.tmp 15) = (.bool true) := hk_.got 2 15 _ (by kernel_rfl) rfl rfl
            have hx_ := hk_.ext
            clear hk_
            refine flow_plain rfl ?_
            exact gives_pick rfl h15 ⟨Below.refl _ _, rfl⟩
          exact allFrom_nil
        intro f_ w_ hx_ hf_
        have h13 : f_ 13 = (.int .i64 i) := hf_ 0 13 _ (by decide) rfl rfl
        have h14 : f_ 14 = (.bool true) := hf_ 1 14 _ (by decide) rfl rfl
        have h15 : f_ 15 = (.bool true) := hf_ 2 15 _ (by decide) rfl rfl
        have h21 : f_ 21 = (.bool true) := hf_ 8 21 _ (by decide) rfl rfl
        simp only [mix, h13, h14, h15, h21]
        clear h13 h14 h15 h21
        clear hf_
        have hB1 := HB1.out.below hx_ l1
        have hB2 := HB2.out.below hx_ hg2'
        have hbB := bx_trans HBA.out hx_
        go_wp2_with (first
          | (refine wpList_load_agg rfl _ _ rfl _ _ rfl (rcs A D.n c A2 D.loose.length c2 D.fails D.dead) aggRD (blk_cells hB1) ?_)
          | (refine wpList_store_agg rfl _ _ _ rfl _ _ rfl (rcs A D.n c A2 D.loose.length c2 D.fails D.dead).toArray rfl aggRD hB2 (Nat.le_refl 4) oneRD ?_; intro w4 hp4))
        refine bodyPost_ret (results_agg2 rfl rfl (aggRD (A := A) (n := D.n) (c := c) (A2 := A2) (m := D.loose.length) (c2 := c2) (f := D.fails) (d := D.dead)) (blk_cells hp4.blk)) rfl ?_
        have hbE := bx_put hbB hp4 hle2
        exact ⟨A2, c2, by rw [HWD.out, HWE.out]; rfl, by rw [HWD.out]; exact H.out.below hbE, hbE⟩
      · go_wp2_with fail
        refine wp_hold (wp_region_lit ?_)
        refine wp_flowSE [0, 1, 3, 7, 15, 31, 63, 127, 255] 9 [false, false, false, false, false, false, false, false, false, false, false, false, false, true, true, true, true, true, true, true, true, true] (by kernel_rfl) (by kernel_rfl) (by kernel_rfl) [FP.eq (.int .i64 i), FP.eq (.bool false), FP.eq (.bool false), FP.eq (.int .i64 i), FP.eq (.pointer (some ⟨w.heap.size, 0, none⟩)), FP.eq (.slice A D.n c), FP.eq (.int .i64 (D.n : Int)), FP.eq (.bool true), FP.eq (.bool true)] ?_ ?_
        · refine allFrom_cons ?_ ?_
          · intro a_ w_ hk_
            have h1 : a_.eval (.tmp 1) = .int .i64 i := hk_.old 1 (by kernel_rfl)
            have hx_ := hk_.ext
            clear hk_
            refine flow_plain rfl ?_
            exact gives_move rfl ⟨Below.refl _ _, h1⟩
          refine allFrom_cons ?_ ?_
          · intro a_ w_ hk_
            have h13 : a_.eval (.tmp 13) = (.int .i64 i) := hk_.got 0 13 _ (by kernel_rfl) rfl rfl
            have hx_ := hk_.ext
            clear hk_
            refine flow_plain rfl ?_
            unfold gives
            have hc_ : ∀ v, a_.eval (.const v) = v := fun _ => rfl
            have hn_ : ∀ f, a_.eval (.func f) = .func (.func f) #[] #[] := fun _ => rfl
            generalize a_.eval = ρ_ at *
            go_simp
            first | exact ⟨Below.refl _ _, rfl⟩ | exact ⟨Below.refl _ _, congrArg Value.bool (decide_eq_false (by omega))⟩
          refine allFrom_cons ?_ ?_
          · intro a_ w_ hk_
            have h14 : a_.eval (.tmp 14) = (.bool false) := hk_.got 1 14 _ (by kernel_rfl) rfl rfl
            have hx_ := hk_.ext
            clear hk_
            refine flow_plain rfl ?_
            exact gives_move rfl ⟨Below.refl _ _, h14⟩
          refine allFrom_cons ?_ ?_
          · intro a_ w_ hk_
            have h1 : a_.eval (.tmp 1) = .int .i64 i := hk_.old 1 (by kernel_rfl)
            have hg_ : a_.eval (.tmp 15) = .bool false := hk_.got 2 15 _ (by kernel_rfl) rfl rfl
            have hy_ := hk_.want 2 _ 15 false rfl rfl hg_
            have hx_ := hk_.ext
            clear hk_
            refine flow_want rfl hy_ ?_
            exact gives_move rfl ⟨Below.refl _ _, h1⟩
          refine allFrom_cons ?_ ?_
          · intro a_ w_ hk_
            have h3 : a_.eval (.tmp 3) = .pointer (some ⟨w.heap.size, 0, none⟩) := hk_.old 3 (by kernel_rfl)
            have hg_ : a_.eval (.tmp 15) = .bool false := hk_.got 2 15 _ (by kernel_rfl) rfl rfl
            have hy_ := hk_.want 2 _ 15 false rfl rfl hg_
            have hx_ := hk_.ext
            clear hk_
            refine flow_want rfl hy_ ?_
            unfold gives
            have hc_ : ∀ v, a_.eval (.const v) = v := fun _ => rfl
            have hn_ : ∀ f, a_.eval (.func f) = .func (.func f) #[] #[] := fun _ => rfl
            clear hy_ hg_
            generalize a_.eval = ρ_ at *
            go_simp
            exact ⟨Below.refl _ _, rfl⟩
          refine allFrom_cons ?_ ?_
          · intro a_ w_ hk_
            have h17 : a_.eval (.tmp 17) = (.pointer (some ⟨w.heap.size, 0, none⟩)) := hk_.got 4 17 _ (by kernel_rfl) rfl rfl
            have hg_ : a_.eval (.tmp 15) = .bool false := hk_.got 2 15 _ (by kernel_rfl) rfl rfl
            have hy_ := hk_.want 2 _ 15 false rfl rfl hg_
            have hx_ := hk_.ext
            clear hk_
            refine flow_want rfl hy_ ?_
            unfold gives
            have hc_ : ∀ v, a_.eval (.const v) = v := fun _ => rfl
            have hn_ : ∀ f, a_.eval (.func f) = .func (.func f) #[] #[] := fun _ => rfl
            clear hy_ hg_
            have hcell := (hx_.cell (p := ⟨w.heap.size, 0, none⟩) l1).trans d0
            generalize a_.eval = ρ_ at *
            go_simp
            exact ⟨Below.refl _ _, rfl⟩
          refine allFrom_cons ?_ ?_
          · intro a_ w_ hk_
            have h18 : a_.eval (.tmp 18) = (.slice A D.n c) := hk_.got 5 18 _ (by kernel_rfl) rfl rfl
            have hg_ : a_.eval (.tmp 15) = .bool false := hk_.got 2 15 _ (by kernel_rfl) rfl rfl
            have hy_ := hk_.want 2 _ 15 false rfl rfl hg_
            have hx_ := hk_.ext
            clear hk_
            refine flow_want rfl hy_ ?_
            unfold gives
            have hc_ : ∀ v, a_.eval (.const v) = v := fun _ => rfl
            have hn_ : ∀ f, a_.eval (.func f) = .func (.func f) #[] #[] := fun _ => rfl
            clear hy_ hg_
            generalize a_.eval = ρ_ at *
            go_simp
            exact ⟨Below.refl _ _, rfl⟩
          refine allFrom_cons ?_ ?_
          · intro a_ w_ hk_
            have h16 : a_.eval (.tmp 16) = (.int .i64 i) := hk_.got 3 16 _ (by kernel_rfl) rfl rfl
            have h19 : a_.eval (.tmp 19) = (.int .i64 (D.n : Int)) := hk_.got 6 19 _ (by kernel_rfl) rfl rfl
            have hg_ : a_.eval (.tmp 15) = .bool false := hk_.got 2 15 _ (by kernel_rfl) rfl rfl
            have hy_ := hk_.want 2 _ 15 false rfl rfl hg_
            have hx_ := hk_.ext
            clear hk_
            refine flow_want rfl hy_ ?_
            unfold gives
            have hc_ : ∀ v, a_.eval (.const v) = v := fun _ => rfl
            have hn_ : ∀ f, a_.eval (.func f) = .func (.func f) #[] #[] := fun _ => rfl
            clear hy_ hg_
            generalize a_.eval = ρ_ at *
            go_simp
            first | exact ⟨Below.refl _ _, rfl⟩ | exact ⟨Below.refl _ _, congrArg Value.bool (decide_eq_true (by omega))⟩
          refine allFrom_cons ?_ ?_
          · intro a_ w_ hk_
            have h15 : a_.eval (.tmp 15) = (.bool false) := hk_.got 2 15 _ (by kernel_rfl) rfl rfl
            have h20 : a_.eval (.tmp 20) = (.bool true) := hk_.got 7 20 _ (by kernel_rfl) rfl rfl
            have hx_ := hk_.ext
            clear hk_
            refine flow_plain rfl ?_
            exact gives_pick rfl h15 ⟨Below.refl _ _, h20⟩
          exact allFrom_nil
        intro f_ w_ hx_ hf_
        have h13 : f_ 13 = (.int .i64 i) := hf_ 0 13 _ (by decide) rfl rfl
        have h14 : f_ 14 = (.bool false) := hf_ 1 14 _ (by decide) rfl rfl
        have h15 : f_ 15 = (.bool false) := hf_ 2 15 _ (by decide) rfl rfl
        have h16 : f_ 16 = (.int .i64 i) := hf_ 3 16 _ (by decide) rfl rfl
        have h17 : f_ 17 = (.pointer (some ⟨w.heap.size, 0, none⟩)) := hf_ 4 17 _ (by decide) rfl rfl
        have h18 : f_ 18 = (.slice A D.n c) := hf_ 5 18 _ (by decide) rfl rfl
        have h19 : f_ 19 = (.int .i64 (D.n : Int)) := hf_ 6 19 _ (by decide) rfl rfl
        have h20 : f_ 20 = (.bool true) := hf_ 7 20 _ (by decide) rfl rfl
        have h21 : f_ 21 = (.bool true) := hf_ 8 21 _ (by decide) rfl rfl
        simp only [mix, h13, h14, h15, h16, h17, h18, h19, h20, h21]
        clear h13 h14 h15 h16 h17 h18 h19 h20 h21
        clear hf_
        have hB1 := HB1.out.below hx_ l1
        have hB2 := HB2.out.below hx_ hg2'
        have hbB := bx_trans HBA.out hx_
        go_wp2_with (first
          | (refine wpList_load_agg rfl _ _ rfl _ _ rfl (rcs A D.n c A2 D.loose.length c2 D.fails D.dead) aggRD (blk_cells hB1) ?_)
          | (refine wpList_store_agg rfl _ _ _ rfl _ _ rfl (rcs A D.n c A2 D.loose.length c2 D.fails D.dead).toArray rfl aggRD hB2 (Nat.le_refl 4) oneRD ?_; intro w4 hp4))
        refine bodyPost_ret (results_agg2 rfl rfl (aggRD (A := A) (n := D.n) (c := c) (A2 := A2) (m := D.loose.length) (c2 := c2) (f := D.fails) (d := D.dead)) (blk_cells hp4.blk)) rfl ?_
        have hbE := bx_put hbB hp4 hle2
        exact ⟨A2, c2, by rw [HWD.out, HWE.out]; rfl, by rw [HWD.out]; exact H.out.below hbE, hbE⟩
end Go.Proofs.Ytnbjoebdbbhbkaa
