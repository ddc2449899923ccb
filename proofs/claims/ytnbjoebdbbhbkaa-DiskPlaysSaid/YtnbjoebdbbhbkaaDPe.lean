
/- The document's answer for the disk: Sync. -/
import Derived.Test.YtnbjoebdbbhbkaaDPd
namespace Go.Proofs.Ytnbjoebdbbhbkaa
open Go.RowKit
set_option linter.unusedVariables false
theorem rGood_put (D : DS) (f : Int → Option (List UInt8)) (i : Nat) (hi : i < D.n) (l : List UInt8) : rGood { D with good := putG f (i : Int) l } = (rGood { D with good := f }).set i l := by
  apply List.ext_getElem?
  intro k
  by_cases hk : k < D.n
  · rw [rGood_get (D := { D with good := putG f (i : Int) l }) hk, List.getElem?_set, rGood_len]
    by_cases hki : i = k
    · subst hki
      rw [if_pos rfl, if_pos hi]
      simp [goodAt, putG]
    · rw [if_neg hki, rGood_get (D := { D with good := f }) hk]
      have : ¬ (k : Int) = (i : Int) := by omega
      simp [goodAt, putG, this]
  · rw [List.getElem?_eq_none (by rw [rGood_len]; exact Nat.not_lt.1 hk), List.getElem?_eq_none (by rw [List.length_set, rGood_len]; exact Nat.not_lt.1 hk)]
theorem SlT.below {w w' : World} {B : Nat} {A : Option Addr} {c : Nat} {ls : List (List UInt8)} (h : SlT w B A c ls) (hB : B ≤ w.heap.size) (hb : Below w.heap.size w w') : SlT w' B A c ls := by
  refine ⟨h.1, h.2.1, ?_⟩
  rcases h.2.2 with h | h
  · exact .inl ⟨h.1.keep fun p hp => hb.cell (by omega), h.2.below hb⟩
  · exact .inr (own_keep h hb)
theorem SlT.put {w w1 : World} {B g : Nat} {A : Option Addr} {c : Nat} {ls : List (List UInt8)} {cs cs' : Array Value} (h : SlT w B A c ls) (hB : B ≤ g) (hb : Blk w g tRD cs) (hp : Put w w1 g tRD cs') : SlT w1 B A c ls := by
  refine ⟨h.1, h.2.1, ?_⟩
  rcases h.2.2 with h | h
  · exact .inl ⟨h.1.below (hp.below hB), h.2.put hb hp (by decide)⟩
  · exact .inr (own_put h hb hp (by decide))
theorem OwT.slt {w : World} {B B' : Nat} {A : Option Addr} {c : Nat} {ls : List (List UInt8)} (h : OwT w B' A c ls) (hB : B ≤ B') : SlT w B A c ls := ⟨h.1, h.2.1, .inr (own_more h.2.2 hB)⟩
/-- The value is a slice of strings of one's own. -/
def FP.sls (B n : Nat) (ls : List (List UInt8)) : FP := ⟨fun v w' => B ≤ w'.heap.size ∧ ∃ A3 c3, v = .slice A3 n c3 ∧ SlT w' B A3 c3 ls, fun _ _ _ hb h => by obtain ⟨h0, A3, c3, h1, h2⟩ := h; exact ⟨Nat.le_trans h0 hb.size, A3, c3, h1, h2.below h0 hb⟩⟩
def LooseIn (D : DS) : Prop := ∀ x ∈ D.loose, 0 ≤ x.1 ∧ x.1 < (D.n : Int)
theorem sync_reg {w : World} {A2 : Option Addr} {L : List (Int × List UInt8)} {n : Nat} (hl : Rd w w.heap.size A2 (lst L)) (hin : ∀ x ∈ L, 0 ≤ x.1 ∧ x.1 < (n : Int)) {k : Nat} (hk : k < L.length) :
    ∃ (q : Nat) (b : List UInt8) (b2 off2 : Nat), A2 = some ⟨b2, off2, none⟩ ∧ b2 < w.heap.size ∧ L[k] = ((q : Int), b) ∧ q < n ∧ w.cell? ⟨b2, off2 + k * 2, none⟩ = some (.int .i64 (q : Int)) ∧ w.cell? ⟨b2, off2 + k * 2 + 1, none⟩ = some (.string ⟨b.toArray⟩) := by
  obtain ⟨b2, off2, rfl, hb2, hc2⟩ := hl.at_ (k := k * 2) (by rw [lst_len]; omega)
  have hca := hc2 _ _ (lst_get hk).1
  have hcb := hc2 _ _ (lst_get hk).2
  rw [← Nat.add_assoc] at hcb
  obtain ⟨h0, h1⟩ := hin _ (List.getElem_mem hk)
  generalize L[k] = x at *
  obtain ⟨z, b⟩ := x
  obtain ⟨q, rfl⟩ := Int.eq_ofNat_of_zero_le h0
  exact ⟨q, b, b2, off2, rfl, hb2, rfl, by have : (q : Int) < (n : Int) := h1; omega, hca, hcb⟩
set_option maxRecDepth 100000 in
set_option maxHeartbeats 4000000 in
theorem rSync_any (w : World) {D : DS} {A A2 : Option Addr} {c c2 : Nat} (h : RefAt w D A c A2 c2) (hn : D.n ≤ 100) (hl : D.loose.length ≤ 1000) (hf : D.fails ≤ 9223372036854775807) (hin : LooseIn D) :
    Calls Try.prog 22 #[.agg (rcs A D.n c A2 D.loose.length c2 D.fails D.dead).toArray] w fun e w' => ∃ A1 c1 A3 c3,
      e = .returned (.tuple #[.agg (rcs A1 (syncW D).n c1 A3 (syncW D).loose.length c3 (syncW D).fails (syncW D).dead).toArray, .int .i64 (syncE D)]) ∧ RefAt w' (syncW D) A1 c1 A3 c3 ∧ Below w.heap.size w w' := by
  have hbx := Blk.new w tRD (rcs A D.n c A2 D.loose.length c2 D.fails D.dead).toArray
  have hb0 : Below w.heap.size w (w.alloc (.cells (rcs A D.n c A2 D.loose.length c2 D.fails D.dead).toArray tRD)) := bx_alloc (Below.refl _ _) _
  have hgs : w.heap.size < (w.alloc (.cells (rcs A D.n c A2 D.loose.length c2 D.fails D.dead).toArray tRD)).heap.size := by simp
  have hgm : c ≤ 9223372036854775807 := h.gm
  have hlm : c2 ≤ 9223372036854775807 := h.lm
  have hgc := h.gc
  have hlc := h.lc
  have H := hid h
  clear h
  go_enter Try.func22, Try.ntmps22
  rw [hold 1, hold 3, hold 4, hold 5, hold 6, hold 10, hold 11]
  go_wp2_with (refine wpList_alloc rfl _ rfl zeroRD ?_; intro g2 w2 hg2 hg2' hblk2 hb2; have hne2 : g2 ≠ w.heap.size := Nat.ne_of_gt (Nat.lt_of_lt_of_le hgs hg2); have hle2 : w.heap.size ≤ g2 := Nat.le_trans hb0.size hg2; have hbA := bx_trans hb0 hb2; have hblk1 := hbx.below hb2 hgs; have d3 := cellD3 hblk1; have l1 := hblk1.lt)
  refine wp_hold ?_
  cases hd : D.dead with
  | true =>
    have HWD := hid (show syncW D = D by unfold syncW; rw [hd]; rfl)
    have HWE := hid (show syncE D = 30 by unfold syncE; rw [hd]; rfl)
    rw [hd] at d3
    go_wp2_with (first
      | (refine wpList_load_agg rfl _ _ rfl _ _ rfl (rcs A D.n c A2 D.loose.length c2 D.fails D.dead) aggRD (blk_cells hblk1) ?_)
      | (refine wpList_store_agg rfl _ _ _ rfl _ _ rfl (rcs A D.n c A2 D.loose.length c2 D.fails D.dead).toArray rfl aggRD hblk2 (Nat.le_refl 4) oneRD ?_; intro w4 hp4))
    refine bodyPost_ret (results_agg2 rfl rfl (aggRD (A := A) (n := D.n) (c := c) (A2 := A2) (m := D.loose.length) (c2 := c2) (f := D.fails) (d := D.dead)) (blk_cells hp4.blk)) rfl ?_
    have hbE := bx_put hbA hp4 hle2
    exact ⟨A, c, A2, c2, by rw [HWD.out, HWE.out]; rfl, by rw [HWD.out]; exact H.out.below hbE, hbE⟩
  | false =>
    rw [hd] at d3
    have lB1 := hblk1.lt
    have lB2 := hblk2.lt
    have hB1 := hblk1
    have hB2 := hblk2
    have hbB := hbA
    have HB0 := hid hb0
    obtain ⟨D1, hD1⟩ : ∃ D1, D1 = countD D := ⟨_, rfl⟩
    have hcf := count_fields D
    have hn1 := countD_n D
    have hl1 := countD_loose D
    have hg1 := countD_good D
    rw [← hD1, hd] at hcf
    rw [← hD1] at hn1 hl1 hg1
    have HD1 := hid hD1
    clear hD1
    have HCNT := hid (fun W => by
      have := rcount_any W A A2 D.n c D.loose.length c2 D.fails false hf
      rw [← hcf.1, ← hcf.2.1, ← hcf.2.2] at this
      exact this)
    have HN1 := hid hn1
    have HL1 := hid hl1
    clear hcf hbx hb0 hblk1 hblk2 hbA hb2
    go_wp2_with fail
    refine wp_hold (wp_region_lit ?_)
    refine wp_flowS [0, 1, 3, 7, 15, 31, 63] 2 [false, false, false, false, false, false, false, false, false, false, true, true, false, false] (by kernel_rfl) (by decide) (by kernel_rfl) [FP.eq (.agg (rcs A D.n c A2 D.loose.length c2 D.fails D.dead).toArray), FP.eq (.tuple #[.agg (rcs A D.n c A2 D.loose.length c2 D1.fails D1.dead).toArray, .int .i64 (countE D)])] ?_ ?_
    · refine allFrom_cons ?_ ?_
      · intro a_ w_ hk_
        have h1 : a_.eval (.tmp 1) = .pointer (some ⟨w.heap.size, 0, none⟩) := hk_.old 1 (by kernel_rfl)
        have hx_ := hk_.ext
        clear hk_
        refine flow_plain rfl ?_
        exact gives_load_agg (x := .tmp 1) rfl h1 (cs := rcs A D.n c A2 D.loose.length c2 D.fails D.dead) aggRD (blk_cells (hB1.below hx_ lB1)) ⟨Below.refl _ _, rfl⟩
      refine allFrom_cons ?_ ?_
      · intro a_ w_ hk_
        have h10 : a_.eval (.tmp 10) = (.agg (rcs A D.n c A2 D.loose.length c2 D.fails D.dead).toArray) := hk_.got 0 10 _ (by kernel_rfl) rfl rfl
        have hx_ := hk_.ext
        clear hk_
        refine flow_plain rfl ?_
        unfold gives
        have hc_ : ∀ v, a_.eval (.const v) = v := fun _ => rfl
        have hn_ : ∀ f, a_.eval (.func f) = .func (.func f) #[] #[] := fun _ => rfl
        generalize a_.eval = ρ_ at *
        go_simp
        exact (HCNT.out w_).mono fun e w' ⟨h1, h2⟩ => ⟨_, h1, h2, rfl⟩
      exact allFrom_nil
    intro f_ w_ hx_ hf_
    have h10 : f_ 10 = (.agg (rcs A D.n c A2 D.loose.length c2 D.fails D.dead).toArray) := hf_ 0 10 _ (by decide) rfl rfl
    have h11 : f_ 11 = (.tuple #[.agg (rcs A D.n c A2 D.loose.length c2 D1.fails D1.dead).toArray, .int .i64 (countE D)]) := hf_ 1 11 _ (by decide) rfl rfl
    simp only [mix, h10, h11]
    clear h10 h11
    clear hf_
    obtain ⟨w5, hw5⟩ : ∃ w, w = w_ := ⟨_, rfl⟩
    rw [← hw5] at hx_ ⊢
    clear hw5
    have hb5 := hx_
    clear hx_
    have hB1' := hB1.below hb5 lB1
    have hB2' := hB2.below hb5 lB2
    have hbB' := bx_trans hbB hb5
    clear hB1 hB2 hbB lB1 lB2
    go_wp2_with ((with_reducible refine wpAtC ?_); refine wpList_store_agg rfl _ _ _ rfl _ _ rfl (rcs A D.n c A2 D.loose.length c2 D1.fails D1.dead).toArray rfl aggRD hB1' (Nat.le_refl 4) oneRD ?_; intro w6 hp6)
    have hB16 : Blk w6 w.heap.size tRD (rcs A D.n c A2 D.loose.length c2 D1.fails D1.dead).toArray := hp6.blk
    have hB26 := hp6.other hB2' hne2
    have hb6 := bx_put hbB' hp6 (Nat.le_refl _)
    have HRA := hid ((H.out.of hn1 hg1 hl1))
    clear hn1 hl1 hg1 hp6 hB1' hB2' hbB' hb5
    refine wp_hold ?_
    by_cases hf0 : D.fails = 0
    · have hce : countE D = 30 := by unfold countE; rw [if_pos hf0]
      have HWD := hid (show syncW D = D1 by unfold syncW; rw [hd, if_neg (by decide), if_neg (by rw [hce]; decide), HD1.out])
      have HWE := hid (show syncE D = 30 by unfold syncE; rw [hd, if_neg (by decide), hce])
      rw [hce]
      clear hce hf0
      go_wp2_with fail
      refine wp_hold ?_
      go_wp2_with (first
        | ((with_reducible refine wpAtC ?_); refine wpList_load_agg rfl _ _ rfl _ _ rfl (rcs A D.n c A2 D.loose.length c2 D1.fails D1.dead) aggRD (blk_cells hB16) ?_)
        | ((with_reducible refine wpAtC ?_); refine wpList_store_agg rfl _ _ _ rfl _ _ rfl (rcs A D.n c A2 D.loose.length c2 D1.fails D1.dead).toArray rfl aggRD hB26 (Nat.le_refl 4) oneRD ?_; intro w4 hp4))
      refine bodyPost_ret (results_agg2 rfl rfl (aggRD (A := A) (n := D.n) (c := c) (A2 := A2) (m := D.loose.length) (c2 := c2) (f := D1.fails) (d := D1.dead)) (blk_cells hp4.blk)) rfl ?_
      have hbE := bx_put hb6 hp4 hle2
      exact ⟨A, c, A2, c2, by rw [HWD.out, HWE.out, HN1.out, HL1.out]; rfl, by rw [HWD.out]; exact HRA.out.below hbE, hbE⟩
    · have hce : countE D = 0 := by unfold countE; rw [if_neg hf0]
      have HWD := hid (show syncW D = syncD D1 by unfold syncW; rw [hd, if_neg (by decide), if_pos hce, HD1.out])
      have HWE := hid (show syncE D = 0 by unfold syncE; rw [hd, if_neg (by decide), hce])
      rw [hce]
      clear hce hf0
      have hRA6 := HRA.out.below hb6
      have hg6 : SlT w6 w.heap.size A c (rGood D1) := ⟨by rw [rGood_len]; exact hRA6.gc, hRA6.gm, .inl ⟨HRA.out.g.below hb6, HRA.out.go.below hb6⟩⟩
      have hl6 := HRA.out.l.below hb6
      rw [HL1.out] at hl6
      have HG6 := hid hg6
      have HL6 := hid hl6
      have HIN := hid hin
      have HB6 := hid hb6
      clear hRA6 hg6 hl6 hin hd
      go_wp2_with fail
      refine wp_hold ?_
      go_wp2_with fail
      have hB26c := hB26
      go_loopw [5] (fun v5 wr => ∃ (k : Nat) (A' : Option Addr) (c' : Nat), k ≤ D.loose.length ∧ v5 = .int .i64 (k : Int) ∧ SlT wr w.heap.size A' c' (rGood { D1 with good := syncG D1.good (D.loose.take k) }) ∧ Blk wr w.heap.size tRD (rcs A' D.n c' A2 D.loose.length c2 D1.fails D1.dead).toArray ∧ Blk wr g2 tRD (rcs none 0 0 none 0 0 0 false).toArray ∧ Rd wr w.heap.size A2 (lst D.loose) ∧ Below w.heap.size w wr) (fun v5 _ => ((D.loose.length : Int) - intOf v5).toNat)
      case atStart => exact ⟨0, A, c, Nat.zero_le _, rfl, HG6.out, hB16, hB26, HL6.out, HB6.out⟩
      case round =>
        obtain ⟨k, A', c', hk, rfl, hS, h1r, h2r, hlr, hbr⟩ := hrel
        rename World => wr
        have d1 := cellD1 h1r
        have d0 := cellD0 h1r
        have lr1 := h1r.lt
        have lr2 := h2r.lt
        have hwr := hbr.size
        by_cases hkn : k < D.loose.length
        · have hki : (k : Int) < (D.loose.length : Int) := by omega
          obtain ⟨q, b, b2, off2, rfl, hb2', hkx, hqn, hca, hcb⟩ := sync_reg (hlr.more hwr) HIN.out hkn
          have hlen : (rGood { D1 with good := syncG D1.good (D.loose.take k) }).length = D.n := by rw [rGood_len]; exact HN1.out
          have hset := fun W hS' => rset_any W (A := A') (c := c') hS' (by rw [hlen]; exact hn) q (by rw [hlen]; exact hqn) b
          rw [hlen] at hset
          have hnx : (rGood { D1 with good := syncG D1.good (D.loose.take k) }).set q b = rGood { D1 with good := syncG D1.good (D.loose.take (k + 1)) } := by
            rw [List.take_succ_eq_append_getElem hkn, syncG_snoc, hkx]
            exact (rGood_put D1 _ q (by rw [HN1.out]; exact hqn) b).symm
          rw [hnx] at hset
          have HSET := hid hset
          have HS := hid hS
          have HB1 := hid h1r
          have HB2 := hid h2r
          have HLR := hid hlr
          have HBR := hid hbr
          have HKX := hid hkx
          clear hset hS h1r h2r hlr hbr hnx hlen hkx hB16 hB26 hB26c hn hl hk HG6 HL6 HB6
          go_wp2_with fail
          refine wp_flow (by kernel_rfl) [0, 1, 0, 4, 0, 28, 60, 124, 0, 256, 0, 1792, 3840, 7936, 16383, 32767, 65535] 15 [false, false, false, false, false, false, false, false, false, false, false, false, false, false, false, false, false, false, false, false, false, false, false, false, false, true, true, true, true, true, true, true, true, true, true, true, true, true, true, true, false] (by kernel_rfl) (by decide) (by kernel_rfl) [FP.eq (.pointer (some ⟨w.heap.size, 0, none⟩)), FP.eq (.slice A' D.n c'), FP.eq (.pointer (some ⟨w.heap.size, 1, none⟩)), FP.eq (.slice (some ⟨b2, off2, none⟩) D.loose.length c2), FP.eq (.int .i64 (k : Int)), FP.eq (.pointer (some ⟨b2, off2 + k * 2, none⟩)), FP.eq (.pointer (some ⟨b2, off2 + k * 2, none⟩)), FP.eq (.int .i64 (q : Int)), FP.eq (.pointer (some ⟨w.heap.size, 1, none⟩)), FP.eq (.slice (some ⟨b2, off2, none⟩) D.loose.length c2), FP.eq (.int .i64 (k : Int)), FP.eq (.pointer (some ⟨b2, off2 + k * 2, none⟩)), FP.eq (.pointer (some ⟨b2, off2 + k * 2 + 1, none⟩)), FP.eq (.string ⟨b.toArray⟩), FP.sls w.heap.size D.n (rGood { D1 with good := syncG D1.good (D.loose.take (k + 1)) })] ?_ ?_
          · refine allFrom_cons ?_ ?_
            · intro a_ w_ hk_
              have h1 : a_.eval (.tmp 1) = .pointer (some ⟨w.heap.size, 0, none⟩) := hk_.old 1 (by kernel_rfl)
              have hx_ := hk_.ext
              clear hk_
              refine flow_plain rfl ?_
              unfold gives
              have hc_ : ∀ v, a_.eval (.const v) = v := fun _ => rfl
              have hn_ : ∀ f, a_.eval (.func f) = .func (.func f) #[] #[] := fun _ => rfl
              generalize a_.eval = ρ_ at *
              go_simp
              exact ⟨Below.refl _ _, rfl⟩
            refine allFrom_cons ?_ ?_
            · intro a_ w_ hk_
              have h25 : a_.eval (.tmp 25) = (.pointer (some ⟨w.heap.size, 0, none⟩)) := hk_.got 0 25 _ (by kernel_rfl) rfl rfl
              have hx_ := hk_.ext
              clear hk_
              refine flow_plain rfl ?_
              unfold gives
              have hc_ : ∀ v, a_.eval (.const v) = v := fun _ => rfl
              have hn_ : ∀ f, a_.eval (.func f) = .func (.func f) #[] #[] := fun _ => rfl
              have hcell := (hx_.cell (p := ⟨w.heap.size, 0, none⟩) lr1).trans d0
              generalize a_.eval = ρ_ at *
              go_simp
              exact ⟨Below.refl _ _, rfl⟩
            refine allFrom_cons ?_ ?_
            · intro a_ w_ hk_
              have h1 : a_.eval (.tmp 1) = .pointer (some ⟨w.heap.size, 0, none⟩) := hk_.old 1 (by kernel_rfl)
              have hx_ := hk_.ext
              clear hk_
              refine flow_plain rfl ?_
              unfold gives
              have hc_ : ∀ v, a_.eval (.const v) = v := fun _ => rfl
              have hn_ : ∀ f, a_.eval (.func f) = .func (.func f) #[] #[] := fun _ => rfl
              generalize a_.eval = ρ_ at *
              go_simp
              exact ⟨Below.refl _ _, rfl⟩
            refine allFrom_cons ?_ ?_
            · intro a_ w_ hk_
              have h27 : a_.eval (.tmp 27) = (.pointer (some ⟨w.heap.size, 1, none⟩)) := hk_.got 2 27 _ (by kernel_rfl) rfl rfl
              have hx_ := hk_.ext
              clear hk_
              refine flow_plain rfl ?_
              unfold gives
              have hc_ : ∀ v, a_.eval (.const v) = v := fun _ => rfl
              have hn_ : ∀ f, a_.eval (.func f) = .func (.func f) #[] #[] := fun _ => rfl
              have hcell := (hx_.cell (p := ⟨w.heap.size, 1, none⟩) lr1).trans d1
              generalize a_.eval = ρ_ at *
              go_simp
              exact ⟨Below.refl _ _, rfl⟩
            refine allFrom_cons ?_ ?_
            · intro a_ w_ hk_
              have h5 : a_.eval (.tmp 5) = .int .i64 (k : Int) := hk_.old 5 (by kernel_rfl)
              have hx_ := hk_.ext
              clear hk_
              refine flow_plain rfl ?_
              exact gives_move rfl ⟨Below.refl _ _, h5⟩
            refine allFrom_cons ?_ ?_
            · intro a_ w_ hk_
              have h28 : a_.eval (.tmp 28) = (.slice (some ⟨b2, off2, none⟩) D.loose.length c2) := hk_.got 3 28 _ (by kernel_rfl) rfl rfl
              have h29 : a_.eval (.tmp 29) = (.int .i64 (k : Int)) := hk_.got 4 29 _ (by kernel_rfl) rfl rfl
              have hx_ := hk_.ext
              clear hk_
              refine flow_plain rfl ?_
              unfold gives
              have hc_ : ∀ v, a_.eval (.const v) = v := fun _ => rfl
              have hn_ : ∀ f, a_.eval (.func f) = .func (.func f) #[] #[] := fun _ => rfl
              generalize a_.eval = ρ_ at *
              go_simp
              exact ⟨Below.refl _ _, rfl⟩
            refine allFrom_cons ?_ ?_
            · intro a_ w_ hk_
              have h30 : a_.eval (.tmp 30) = (.pointer (some ⟨b2, off2 + k * 2, none⟩)) := hk_.got 5 30 _ (by kernel_rfl) rfl rfl
              have hx_ := hk_.ext
              clear hk_
              refine flow_plain rfl ?_
              unfold gives
              have hc_ : ∀ v, a_.eval (.const v) = v := fun _ => rfl
              have hn_ : ∀ f, a_.eval (.func f) = .func (.func f) #[] #[] := fun _ => rfl
              generalize a_.eval = ρ_ at *
              go_simp
              exact ⟨Below.refl _ _, rfl⟩
            refine allFrom_cons ?_ ?_
            · intro a_ w_ hk_
              have h31 : a_.eval (.tmp 31) = (.pointer (some ⟨b2, off2 + k * 2, none⟩)) := hk_.got 6 31 _ (by kernel_rfl) rfl rfl
              have hx_ := hk_.ext
              clear hk_
              refine flow_plain rfl ?_
              unfold gives
              have hc_ : ∀ v, a_.eval (.const v) = v := fun _ => rfl
              have hn_ : ∀ f, a_.eval (.func f) = .func (.func f) #[] #[] := fun _ => rfl
              have hcell := (hx_.cell (p := ⟨b2, off2 + k * 2, none⟩) hb2').trans hca
              generalize a_.eval = ρ_ at *
              go_simp
              exact ⟨Below.refl _ _, rfl⟩
            refine allFrom_cons ?_ ?_
            · intro a_ w_ hk_
              have h1 : a_.eval (.tmp 1) = .pointer (some ⟨w.heap.size, 0, none⟩) := hk_.old 1 (by kernel_rfl)
              have hx_ := hk_.ext
              clear hk_
              refine flow_plain rfl ?_
              unfold gives
              have hc_ : ∀ v, a_.eval (.const v) = v := fun _ => rfl
              have hn_ : ∀ f, a_.eval (.func f) = .func (.func f) #[] #[] := fun _ => rfl
              generalize a_.eval = ρ_ at *
              go_simp
              exact ⟨Below.refl _ _, rfl⟩
            refine allFrom_cons ?_ ?_
            · intro a_ w_ hk_
              have h33 : a_.eval (.tmp 33) = (.pointer (some ⟨w.heap.size, 1, none⟩)) := hk_.got 8 33 _ (by kernel_rfl) rfl rfl
              have hx_ := hk_.ext
              clear hk_
              refine flow_plain rfl ?_
              unfold gives
              have hc_ : ∀ v, a_.eval (.const v) = v := fun _ => rfl
              have hn_ : ∀ f, a_.eval (.func f) = .func (.func f) #[] #[] := fun _ => rfl
              have hcell := (hx_.cell (p := ⟨w.heap.size, 1, none⟩) lr1).trans d1
              generalize a_.eval = ρ_ at *
              go_simp
              exact ⟨Below.refl _ _, rfl⟩
            refine allFrom_cons ?_ ?_
            · intro a_ w_ hk_
              have h5 : a_.eval (.tmp 5) = .int .i64 (k : Int) := hk_.old 5 (by kernel_rfl)
              have hx_ := hk_.ext
              clear hk_
              refine flow_plain rfl ?_
              exact gives_move rfl ⟨Below.refl _ _, h5⟩
            refine allFrom_cons ?_ ?_
            · intro a_ w_ hk_
              have h34 : a_.eval (.tmp 34) = (.slice (some ⟨b2, off2, none⟩) D.loose.length c2) := hk_.got 9 34 _ (by kernel_rfl) rfl rfl
              have h35 : a_.eval (.tmp 35) = (.int .i64 (k : Int)) := hk_.got 10 35 _ (by kernel_rfl) rfl rfl
              have hx_ := hk_.ext
              clear hk_
              refine flow_plain rfl ?_
              unfold gives
              have hc_ : ∀ v, a_.eval (.const v) = v := fun _ => rfl
              have hn_ : ∀ f, a_.eval (.func f) = .func (.func f) #[] #[] := fun _ => rfl
              generalize a_.eval = ρ_ at *
              go_simp
              exact ⟨Below.refl _ _, rfl⟩
            refine allFrom_cons ?_ ?_
            · intro a_ w_ hk_
              have h36 : a_.eval (.tmp 36) = (.pointer (some ⟨b2, off2 + k * 2, none⟩)) := hk_.got 11 36 _ (by kernel_rfl) rfl rfl
              have hx_ := hk_.ext
              clear hk_
              refine flow_plain rfl ?_
              unfold gives
              have hc_ : ∀ v, a_.eval (.const v) = v := fun _ => rfl
              have hn_ : ∀ f, a_.eval (.func f) = .func (.func f) #[] #[] := fun _ => rfl
              generalize a_.eval = ρ_ at *
              go_simp
              exact ⟨Below.refl _ _, rfl⟩
            refine allFrom_cons ?_ ?_
            · intro a_ w_ hk_
              have h37 : a_.eval (.tmp 37) = (.pointer (some ⟨b2, off2 + k * 2 + 1, none⟩)) := hk_.got 12 37 _ (by kernel_rfl) rfl rfl
              have hx_ := hk_.ext
              clear hk_
              refine flow_plain rfl ?_
              unfold gives
              have hc_ : ∀ v, a_.eval (.const v) = v := fun _ => rfl
              have hn_ : ∀ f, a_.eval (.func f) = .func (.func f) #[] #[] := fun _ => rfl
              have hcell := (hx_.cell (p := ⟨b2, off2 + k * 2 + 1, none⟩) hb2').trans hcb
              generalize a_.eval = ρ_ at *
              go_simp
              exact ⟨Below.refl _ _, rfl⟩
            refine allFrom_cons ?_ ?_
            · intro a_ w_ hk_
              have h26 : a_.eval (.tmp 26) = (.slice A' D.n c') := hk_.got 1 26 _ (by kernel_rfl) rfl rfl
              have h32 : a_.eval (.tmp 32) = (.int .i64 (q : Int)) := hk_.got 7 32 _ (by kernel_rfl) rfl rfl
              have h38 : a_.eval (.tmp 38) = (.string ⟨b.toArray⟩) := hk_.got 13 38 _ (by kernel_rfl) rfl rfl
              have hx_ := hk_.ext
              clear hk_
              refine flow_plain rfl ?_
              unfold gives
              have hc_ : ∀ v, a_.eval (.const v) = v := fun _ => rfl
              have hn_ : ∀ f, a_.eval (.func f) = .func (.func f) #[] #[] := fun _ => rfl
              generalize a_.eval = ρ_ at *
              go_simp
              exact (HSET.out w_ ((HS.out.below hwr hx_).sls (Nat.le_trans hwr hx_.size))).mono fun e w' ⟨A3, c3, h1, h2, h3⟩ => ⟨_, h1, h3, Nat.le_trans hwr (Nat.le_trans hx_.size h3.size), A3, c3, rfl, h2.slt (Nat.le_trans hwr hx_.size)⟩
            exact allFrom_nil
          intro f_ w_ hx_ hf_
          have h25 : f_ 25 = (.pointer (some ⟨w.heap.size, 0, none⟩)) := hf_ 0 25 _ (by decide) rfl rfl
          have h26 : f_ 26 = (.slice A' D.n c') := hf_ 1 26 _ (by decide) rfl rfl
          have h27 : f_ 27 = (.pointer (some ⟨w.heap.size, 1, none⟩)) := hf_ 2 27 _ (by decide) rfl rfl
          have h28 : f_ 28 = (.slice (some ⟨b2, off2, none⟩) D.loose.length c2) := hf_ 3 28 _ (by decide) rfl rfl
          have h29 : f_ 29 = (.int .i64 (k : Int)) := hf_ 4 29 _ (by decide) rfl rfl
          have h30 : f_ 30 = (.pointer (some ⟨b2, off2 + k * 2, none⟩)) := hf_ 5 30 _ (by decide) rfl rfl
          have h31 : f_ 31 = (.pointer (some ⟨b2, off2 + k * 2, none⟩)) := hf_ 6 31 _ (by decide) rfl rfl
          have h32 : f_ 32 = (.int .i64 (q : Int)) := hf_ 7 32 _ (by decide) rfl rfl
          have h33 : f_ 33 = (.pointer (some ⟨w.heap.size, 1, none⟩)) := hf_ 8 33 _ (by decide) rfl rfl
          have h34 : f_ 34 = (.slice (some ⟨b2, off2, none⟩) D.loose.length c2) := hf_ 9 34 _ (by decide) rfl rfl
          have h35 : f_ 35 = (.int .i64 (k : Int)) := hf_ 10 35 _ (by decide) rfl rfl
          have h36 : f_ 36 = (.pointer (some ⟨b2, off2 + k * 2, none⟩)) := hf_ 11 36 _ (by decide) rfl rfl
          have h37 : f_ 37 = (.pointer (some ⟨b2, off2 + k * 2 + 1, none⟩)) := hf_ 12 37 _ (by decide) rfl rfl
          have h38 : f_ 38 = (.string ⟨b.toArray⟩) := hf_ 13 38 _ (by decide) rfl rfl
          have h39 : (FP.sls w.heap.size D.n (rGood { D1 with good := syncG D1.good (D.loose.take (k + 1)) })).p (f_ 39) w_ := hf_ 14 39 _ (by decide) rfl rfl
          simp only [mix, List.drop_succ_cons, List.drop_zero, h25, h26, h27, h28, h29, h30, h31, h32, h33, h34, h35, h36, h37, h38]
          clear h25 h26 h27 h28 h29 h30 h31 h32 h33 h34 h35 h36 h37 h38
          clear hf_
          obtain ⟨_, A3, c3, h39, hS3⟩ := h39
          rw [h39]
          have h1w := HB1.out.below hx_ lr1
          have h2w := HB2.out.below hx_ lr2
          have hlw := HLR.out.keep fun p hp => hx_.cell (by omega)
          have hbw := bx_trans HBR.out hx_
          have f0 := h1w.frozen 0
          have d0w := cellD0 h1w
          have hP := setD0 h1w A3 D.n c3
          have h2P := hP.other h2w hne2
          have hbP := bx_put hbw hP (Nat.le_refl _)
          have hS4 := hS3.put (Nat.le_refl _) h1w hP
          have hl4 := hlw.below (hP.below (Nat.le_refl _))
          clear HS HB1 HB2 HLR HBR HSET d1 d0 hca hcb hlw h1w h2w
          go_wp2_with fail
          refine ⟨⟨k + 1, A3, c3, hkn, rfl, hS4, hP.blk, h2P, hl4, hbP⟩, ?_⟩
          show ((D.loose.length : Int) - ((k : Int) + 1)).toNat < ((D.loose.length : Int) - (k : Int)).toNat
          omega
        · obtain rfl : k = D.loose.length := by omega
          have hki : ¬ (D.loose.length : Int) < (D.loose.length : Int) := by omega
          have f1 := h1r.frozen 1
          have hP := setD1 h1r none 0 0
          have h2P := hP.other h2r hne2
          have hbP := bx_put hbr hP (Nat.le_refl _)
          have hSP := hS.put (Nat.le_refl _) h1r hP
          have hwP := hbP.size
          rw [List.take_length] at hSP
          have HSP := hid hSP
          clear hS hSP h1r
          go_wp2_with fail
          refine wp_hold ?_
          go_wp2_with fail
          refine wp_hold ?_
          go_wp2_with (first
            | ((with_reducible refine wpAtC ?_); refine wpList_load_agg rfl _ _ rfl _ _ rfl (rcs A' D.n c' none 0 0 D1.fails D1.dead) aggRD (blk_cells hP.blk) ?_)
            | ((with_reducible refine wpAtC ?_); refine wpList_store_agg rfl _ _ _ rfl _ _ rfl (rcs A' D.n c' none 0 0 D1.fails D1.dead).toArray rfl aggRD h2P (Nat.le_refl 4) oneRD ?_; intro w8 hp8))
          refine bodyPost_ret (results_agg2 rfl rfl (aggRD (A := A') (n := D.n) (c := c') (A2 := none) (m := 0) (c2 := 0) (f := D1.fails) (d := D1.dead)) (blk_cells hp8.blk)) rfl ?_
          have hbE := bx_put hbP hp8 hle2
          have hSE := (HSP.out.put hle2 h2P hp8).sls hbE.size
          have hOE := (HSP.out.put hle2 h2P hp8).ty
          refine ⟨A', c', none, 0, ?_, ?_, hbE⟩
          · rw [HWD.out, HWE.out]
            show _ = Ending.returned (.tuple #[.agg (rcs A' D1.n c' none 0 0 D1.fails D1.dead).toArray, .int .i64 0])
            rw [HN1.out]
            rfl
          · rw [HWD.out]
            have hgl : (rGood (syncD D1)).length = D1.n := rGood_len _
            have hSE' : SlS w8 A' c' (rGood (syncD D1)) := by
              have e : rGood (syncD D1) = rGood { D1 with good := syncG D1.good D.loose } := by unfold syncD rGood goodAt; rw [HL1.out]
              rw [e]
              exact hSE
            exact ⟨hSE'.2.2, by show D1.n ≤ c'; rw [← hgl]; exact hSE'.1, hSE'.2.1, .inl rfl, Nat.le_refl _, Nat.zero_le _, hOE, TyA.nil _ _⟩
end Go.Proofs.Ytnbjoebdbbhbkaa
