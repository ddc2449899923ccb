
/- The document's answer for the disk: Crash. -/
import Derived.Test.YtnbjoebdbbhbkaaDPe
namespace Go.Proofs.Ytnbjoebdbbhbkaa
open Go.RowKit
set_option linter.unusedVariables false
theorem str_get {s : List UInt8} {i : Nat} {c : UInt8} (h : s[i]? = some c) (w : World) : (Instr.index 9 (.string ⟨s.toArray⟩) (.int .i64 (i : Int))).run Try.prog w = .ok (.int .u8 (c.toNat : Int)) w := by
  have hi : i < s.length := (List.getElem?_eq_some_iff.1 h).1
  have hsz : (⟨s.toArray⟩ : ByteArray).size = s.length := by simp [ByteArray.size]
  rw [run_index_string w 9 _ .i64 (i : Int) Try.underlying9, dif_pos (by rw [hsz]; omega)]
  have he : (⟨s.toArray⟩ : ByteArray)[(i : Int).toNat]'(by rw [Int.toNat_natCast, hsz]; exact hi) = c := by
    have := (List.getElem?_eq_some_iff.1 h).2
    simpa [ByteArray.getElem_eq_getElem_data] using this
  rw [he]
theorem str_cat (l r : List UInt8) : (⟨l.toArray⟩ : ByteArray) ++ ⟨r.toArray⟩ = ⟨(l ++ r).toArray⟩ := by
  apply ByteArray.ext
  simp
theorem crashG_ok {f : Int → Option (List UInt8)} (h : ∀ k l, f k = some l → l.length = 256) {ls : List ((Int × List UInt8) × UInt8)} (hl : ∀ z ∈ ls, z.1.2.length = 256) : ∀ k l, crashG f ls k = some l → l.length = 256 := by
  induction ls generalizing f with
  | nil => exact h
  | cons z ls ih =>
    refine ih (f := crash1 f z) ?_ (fun y hy => hl y (by simp [hy]))
    refine putG_ok h (mixB_length (hl z (by simp)) ?_ (frontN_le _))
    cases hz : f z.1.1 with
    | none => exact zeros_length
    | some l => exact h _ _ hz
theorem zeroRL : ZeroT Try.prog tRL (.agg (lcell (0, [])).toArray) := zeroT_of (by kernel_rfl)
theorem aggRLc (x : Int × List UInt8) : AggT Try.prog tRL (lcell x).length := aggT_of Try.underlying65 rfl (by kernel_rfl)
theorem oneRL (x : Int × List UInt8) : ∀ v ∈ (lcell x).toArray.toList, v.oneCell' = true := by
  intro v hv
  simp only [lcell, List.mem_cons, List.not_mem_nil, or_false] at hv
  rcases hv with rfl | rfl <;> rfl
theorem bltRDg (A : Option Addr) (n c : Nat) : Try.prog.built tRD [(0, .slice A n c), (2, .int .i64 (-1))] = some (rcs A n c none 0 0 (-1) false).toArray := by kernel_rfl
theorem str_take (b : List UInt8) (k : Nat) : (⟨b.toArray⟩ : ByteArray).extract 0 k = ⟨(b.take k).toArray⟩ := by
  apply ByteArray.ext
  rw [ByteArray.data_extract]
  simp
theorem str_drop (b : List UInt8) (k n : Nat) (h : b.length ≤ n) : (⟨b.toArray⟩ : ByteArray).extract k n = ⟨(b.drop k).toArray⟩ := by
  apply ByteArray.ext
  rw [ByteArray.data_extract]
  simp
  exact List.take_of_length_le (by rw [List.length_drop]; omega)
/-- What a round of Crash finds, and what it makes of it. -/
theorem crash_reg {D : DS} (hok : D.Ok) {front : List UInt8} {k q : Nat} {b : List UInt8} (hk : k < D.loose.length) (hkf : k < front.length) (hx : D.loose[k] = ((q : Int), b)) (hq : q < D.n) :
    ∃ og : List UInt8, (rGood { D with good := crashG D.good ((D.loose.zip front).take k) })[q]? = some og ∧ og.length = 256 ∧ b.length = 256 ∧
      (rGood { D with good := crashG D.good ((D.loose.zip front).take k) }).set q (b.take (frontN front[k]) ++ og.drop (frontN front[k])) = rGood { D with good := crashG D.good ((D.loose.zip front).take (k + 1)) } := by
  have hfk : ∀ j l, crashG D.good ((D.loose.zip front).take k) j = some l → l.length = 256 := crashG_ok hok.g256 fun z hz => hok.l256 _ (List.of_mem_zip (List.mem_of_mem_take hz)).1
  have hb : b.length = 256 := by
    have := hok.l256 _ (List.getElem_mem hk)
    rw [hx] at this
    exact this
  refine ⟨goodAt { D with good := crashG D.good ((D.loose.zip front).take k) } (q : Int), rGood_get (D := { D with good := crashG D.good ((D.loose.zip front).take k) }) hq, ?_, hb, ?_⟩
  · unfold goodAt
    show ((crashG D.good ((D.loose.zip front).take k) (q : Int)).getD zeros).length = 256
    cases hz : crashG D.good ((D.loose.zip front).take k) (q : Int) with
    | none => exact zeros_length
    | some l => exact hfk _ _ hz
  · have hkz : k < (D.loose.zip front).length := by rw [List.length_zip]; omega
    rw [List.take_succ_eq_append_getElem hkz, List.getElem_zip, hx, crashG_snoc]
    exact (rGood_put D (crashG D.good ((D.loose.zip front).take k)) q hq _).symm
theorem frontN_cases (y : UInt8) : (((y.toNat : Int) == 255) = true ∧ (256 : Int) = (frontN y : Nat)) ∨ (((y.toNat : Int) == 255) = false ∧ (y.toNat : Int) = (frontN y : Nat)) := by
  unfold frontN
  by_cases h : y.toNat = 255
  · left
    rw [if_pos h]
    exact ⟨by simp; omega, rfl⟩
  · right
    rw [if_neg h]
    exact ⟨by simp; omega, rfl⟩
set_option maxRecDepth 100000 in
set_option maxHeartbeats 4000000 in
theorem rCrash_any (w : World) {D : DS} {A A2 : Option Addr} {c c2 : Nat} (h : RefAt w D A c A2 c2) (hok : D.Ok) (hn : D.n ≤ 100) (hl : D.loose.length ≤ 1000) (hin : LooseIn D) (front : List UInt8) (hfr : front.length ≤ 1000) :
    Calls Try.prog 24 #[.agg (rcs A D.n c A2 D.loose.length c2 D.fails D.dead).toArray, .string ⟨front.toArray⟩] w fun e w' => ∃ A1 c1,
      e = .returned (.agg (rcs A1 D.n c1 none 0 0 (-1) false).toArray) ∧ RefAt w' (crashD D front) A1 c1 none 0 ∧ Below w.heap.size w w' := by
  have hbx := Blk.new w tRD (rcs A D.n c A2 D.loose.length c2 D.fails D.dead).toArray
  have hb0 : Below w.heap.size w (w.alloc (.cells (rcs A D.n c A2 D.loose.length c2 D.fails D.dead).toArray tRD)) := bx_alloc (Below.refl _ _) _
  have hgs : w.heap.size < (w.alloc (.cells (rcs A D.n c A2 D.loose.length c2 D.fails D.dead).toArray tRD)).heap.size := by simp
  have hgm : c ≤ 9223372036854775807 := h.gm
  have hlm : c2 ≤ 9223372036854775807 := h.lm
  have hgc := h.gc
  have hlc := h.lc
  have hsz : (⟨front.toArray⟩ : ByteArray).size = front.length := by simp [ByteArray.size]
  have H := hid h
  have HIN := hid hin
  have HOK := hid hok
  clear h hin hok
  go_enter Try.func24, Try.ntmps24
  rw [hold 7, hold 9]
  go_wp2_with (refine wpList_alloc rfl _ rfl zeroRD ?_; intro g2 w2 hg2 hg2' hblk2 hb2; have hne2 : g2 ≠ w.heap.size := Nat.ne_of_gt (Nat.lt_of_lt_of_le hgs hg2); have hle2 : w.heap.size ≤ g2 := Nat.le_trans hb0.size hg2; have hbA := bx_trans hb0 hb2; have hblk1 := hbx.below hb2 hgs; have hSA : SlT w2 w.heap.size A c (rGood { D with good := crashG D.good ((D.loose.zip front).take 0) }) := ⟨by rw [rGood_len]; exact hgc, hgm, .inl ⟨H.out.g.below hbA, H.out.go.below hbA⟩⟩; have hlA := H.out.l.below hbA)
  go_loopw [5] (fun v5 wr => ∃ (k : Nat) (A' : Option Addr) (c' : Nat), k ≤ D.loose.length ∧ k ≤ front.length ∧ v5 = .int .i64 (k : Int) ∧ SlT wr w.heap.size A' c' (rGood { D with good := crashG D.good ((D.loose.zip front).take k) }) ∧ Blk wr w.heap.size tRD (rcs A' D.n c' A2 D.loose.length c2 D.fails D.dead).toArray ∧ Blk wr g2 tRD (rcs none 0 0 none 0 0 0 false).toArray ∧ Rd wr w.heap.size A2 (lst D.loose) ∧ Below w.heap.size w wr) (fun v5 _ => ((D.loose.length : Int) - intOf v5).toNat)
  case atStart => exact ⟨0, A, c, Nat.zero_le _, Nat.zero_le _, rfl, hSA, hblk1, hblk2, hlA, hbA⟩
  case round =>
    clear hbx hb0 hblk1 hblk2 hbA hb2 hSA hlA
    obtain ⟨k, A', c', hk, hkf, rfl, hS, h1r, h2r, hlr, hbr⟩ := hrel
    rename World => wr
    have d1 := cellD1 h1r
    have d0 := cellD0 h1r
    have lr1 := h1r.lt
    have lr2 := h2r.lt
    have hwr := hbr.size
    by_cases hkn : k < D.loose.length
    · by_cases hkF : k < front.length
      · have hki : (k : Int) < (D.loose.length : Int) := by omega
        have hkif : (k : Int) < (front.length : Int) := by omega
        obtain ⟨q, b, b2, off2, rfl, hb2', hkx, hqn, hca, hcb⟩ := sync_reg (hlr.more hwr) HIN.out hkn
        have hxf := str_get (List.getElem?_eq_getElem hkF)
        obtain ⟨og, hog, hol, hbl, hnx⟩ := crash_reg HOK.out hkn hkF hkx hqn
        obtain ⟨ba, oa, rfl, hba, hgc2⟩ := (hS.sls hwr).2.2.at_ (k := q) (by rw [List.length_map, rGood_len]; exact hqn)
        have hcg := hgc2 q (sval og) (by rw [List.getElem?_map, hog]; rfl)
        have hlen : (rGood { D with good := crashG D.good ((D.loose.zip front).take k) }).length = D.n := rGood_len _
        have hset := fun W hS' => rset_any W (A := some ⟨ba, oa, none⟩) (c := c') hS' (by rw [hlen]; exact hn) q (by rw [hlen]; exact hqn) (b.take (frontN front[k]) ++ og.drop (frontN front[k]))
        rw [hlen, hnx] at hset
        have hN := frontN_le front[k]
        have hNc := frontN_cases front[k]
        have hlx : ∀ j v, (lcell ((q : Int), b))[j]? = some v → wr.cell? ⟨b2, off2 + k * 2 + j, none⟩ = some v := by
          intro j v hj
          rcases j with _ | _ | j
          · injection hj with hj
            subst hj
            exact hca
          · injection hj with hj
            subst hj
            exact hcb
          · cases hj
        generalize front[k] = y at *
        obtain ⟨N, hNe⟩ : ∃ N, N = frontN y := ⟨_, rfl⟩
        rw [← hNe] at hset hN hNc
        have HSET := hid hset
        have HS := hid hS
        have HB1 := hid h1r
        have HB2 := hid h2r
        have HLR := hid hlr
        have HBR := hid hbr
        have HLX := hid hlx
        have HOL := hid hol
        have HBL := hid hbl
        clear hset hS h1r h2r hlr hbr hnx hlen hkx hol hbl hog hgc2 hNe hlx
        rcases hNc with ⟨hd, hv⟩ | ⟨hd, hv⟩
        · skip
          have HV := hid hv
          have hwy : wrap64 (y.toNat : Int) = (y.toNat : Int) := by have := y.toNat_lt; simp only [wrap64]; omega
          clear hv
          go_wp2_with fail
          refine wp_hold ?_
          go_wp2_with (first
            | ((with_reducible refine wpAtC ?_); refine wpList_load_agg rfl _ _ rfl _ _ rfl (lcell ((q : Int), b)) (aggRLc _) HLX.out ?_)
            | (refine wpList_alloc rfl _ rfl zeroRL ?_; intro g7 w7 hg7 hg7' hblk7 hb7)
            | ((with_reducible refine wpAtC ?_); refine wpList_store_agg rfl _ _ _ rfl _ _ rfl (lcell ((q : Int), b)).toArray rfl (aggRLc _) hblk7 (Nat.le_refl 2) (oneRL _) ?_; intro w8 hp8))
          have hb8 := bx_put hb7 hp8 hg7
          have h7 : Blk w8 g7 tRL (lcell ((q : Int), b)).toArray := hp8.blk
          have e70 : w8.cell? ⟨g7, 0, none⟩ = some (.int .i64 (q : Int)) := h7.cell 0
          have e71 : w8.cell? ⟨g7, 1, none⟩ = some (.string ⟨b.toArray⟩) := h7.cell 1
          have l7 := h7.lt
          have H1 := hid (HB1.out.below hb8 lr1)
          have d0' := cellD0 H1.out
          have l1 := H1.out.lt
          have H2 := hid (HB2.out.below hb8 lr2)
          have HS8 := hid (HS.out.below hwr hb8)
          have HL8 := hid (HLR.out.keep fun p hp => hb8.cell (Nat.lt_of_lt_of_le hp hwr))
          have HB8 := hid (bx_trans HBR.out hb8)
          have hw8 := HB8.out.size
          have hcg8 := (hb8.cell (p := ⟨ba, oa + q, none⟩) hba).trans hcg
          have hba8 := Nat.lt_of_lt_of_le hba hb8.size
          clear hca hcb hcg d0 d1 hp8 hblk7 hb7 hb8 h7 HB1 HB2 HS HLR HBR
          refine wp_flow (by kernel_rfl) [0, 1, 0, 4, 0, 16, 0, 112, 0, 256, 0, 1024, 3840, 7936, 0, 32512, 65520, 131071, 262143, 524287] 18 [false, false, false, false, false, false, false, false, false, false, false, false, false, false, false, false, false, false, false, false, false, false, false, false, false, false, false, false, false, false, false, false, true, true, true, true, true, true, true, true, true, true, true, true, true, true, true, true, true, true, false] (by kernel_rfl) (by decide) (by kernel_rfl) [FP.eq (.pointer (some ⟨w.heap.size, 0, none⟩)), FP.eq (.slice (some ⟨ba, oa, none⟩) D.n c'), FP.eq (.pointer (some ⟨g7, 0, none⟩)), FP.eq (.int .i64 (q : Int)), FP.eq (.pointer (some ⟨g7, 1, none⟩)), FP.eq (.string ⟨b.toArray⟩), FP.eq (.int .i64 256), FP.eq (.string ⟨(b.take N).toArray⟩), FP.eq (.pointer (some ⟨w.heap.size, 0, none⟩)), FP.eq (.slice (some ⟨ba, oa, none⟩) D.n c'), FP.eq (.pointer (some ⟨g7, 0, none⟩)), FP.eq (.int .i64 (q : Int)), FP.eq (.pointer (some ⟨ba, oa + q, none⟩)), FP.eq (.string ⟨og.toArray⟩), FP.eq (.int .i64 256), FP.eq (.string ⟨(og.drop N).toArray⟩), FP.eq (.string ⟨(b.take N ++ og.drop N).toArray⟩), FP.sls w.heap.size D.n (rGood { D with good := crashG D.good ((D.loose.zip front).take (k + 1)) })] ?_ ?_
          · refine allFrom_cons ?_ ?_
            · intro a_ w_ hk_
              have h2 : a_.eval (.tmp 2) = .pointer (some ⟨w.heap.size, 0, none⟩) := hk_.old 2 (by kernel_rfl)
              have hx_ := hk_.ext
              clear hk_
              refine flow_plain rfl ?_
              unfold gives
              have hc_ : ∀ v, a_.eval (.const v) = v := fun _ => rfl
              have hn_ : ∀ f, a_.eval (.func f) = .func (.func f) #[] #[] := fun _ => rfl
              generalize a_.eval = ρ_ at *
              go_simp
              exact ⟨Below.refl _ _, rfl⟩
            refine allFrom_cons ?_ ?_
            · intro a_ w_ hk_
              have h32 : a_.eval (.tmp 32) = (.pointer (some ⟨w.heap.size, 0, none⟩)) := hk_.got 0 32 _ (by kernel_rfl) rfl rfl
              have hx_ := hk_.ext
              clear hk_
              refine flow_plain rfl ?_
              unfold gives
              have hc_ : ∀ v, a_.eval (.const v) = v := fun _ => rfl
              have hn_ : ∀ f, a_.eval (.func f) = .func (.func f) #[] #[] := fun _ => rfl
              have hcell := (hx_.cell (p := ⟨w.heap.size, 0, none⟩) l1).trans d0'
              generalize a_.eval = ρ_ at *
              go_simp
              exact ⟨Below.refl _ _, rfl⟩
            refine allFrom_cons ?_ ?_
            · intro a_ w_ hk_
              have h7 : a_.eval (.tmp 7) = .pointer (some ⟨g7, 0, none⟩) := hk_.old 7 (by kernel_rfl)
              have hx_ := hk_.ext
              clear hk_
              refine flow_plain rfl ?_
              unfold gives
              have hc_ : ∀ v, a_.eval (.const v) = v := fun _ => rfl
              have hn_ : ∀ f, a_.eval (.func f) = .func (.func f) #[] #[] := fun _ => rfl
              generalize a_.eval = ρ_ at *
              go_simp
              exact ⟨Below.refl _ _, rfl⟩
            refine allFrom_cons ?_ ?_
            · intro a_ w_ hk_
              have h34 : a_.eval (.tmp 34) = (.pointer (some ⟨g7, 0, none⟩)) := hk_.got 2 34 _ (by kernel_rfl) rfl rfl
              have hx_ := hk_.ext
              clear hk_
              refine flow_plain rfl ?_
              unfold gives
              have hc_ : ∀ v, a_.eval (.const v) = v := fun _ => rfl
              have hn_ : ∀ f, a_.eval (.func f) = .func (.func f) #[] #[] := fun _ => rfl
              have hcell := (hx_.cell (p := ⟨g7, 0, none⟩) l7).trans e70
              generalize a_.eval = ρ_ at *
              go_simp
              exact ⟨Below.refl _ _, rfl⟩
            refine allFrom_cons ?_ ?_
            · intro a_ w_ hk_
              have h7 : a_.eval (.tmp 7) = .pointer (some ⟨g7, 0, none⟩) := hk_.old 7 (by kernel_rfl)
              have hx_ := hk_.ext
              clear hk_
              refine flow_plain rfl ?_
              unfold gives
              have hc_ : ∀ v, a_.eval (.const v) = v := fun _ => rfl
              have hn_ : ∀ f, a_.eval (.func f) = .func (.func f) #[] #[] := fun _ => rfl
              generalize a_.eval = ρ_ at *
              go_simp
              exact ⟨Below.refl _ _, rfl⟩
            refine allFrom_cons ?_ ?_
            · intro a_ w_ hk_
              have h36 : a_.eval (.tmp 36) = (.pointer (some ⟨g7, 1, none⟩)) := hk_.got 4 36 _ (by kernel_rfl) rfl rfl
              have hx_ := hk_.ext
              clear hk_
              refine flow_plain rfl ?_
              unfold gives
              have hc_ : ∀ v, a_.eval (.const v) = v := fun _ => rfl
              have hn_ : ∀ f, a_.eval (.func f) = .func (.func f) #[] #[] := fun _ => rfl
              have hcell := (hx_.cell (p := ⟨g7, 1, none⟩) l7).trans e71
              generalize a_.eval = ρ_ at *
              go_simp
              exact ⟨Below.refl _ _, rfl⟩
            refine allFrom_cons ?_ ?_
            · intro a_ w_ hk_
              have h6 : a_.eval (.tmp 6) = .int .i64 256 := hk_.old 6 (by kernel_rfl)
              have hx_ := hk_.ext
              clear hk_
              refine flow_plain rfl ?_
              exact gives_move rfl ⟨Below.refl _ _, h6⟩
            refine allFrom_cons ?_ ?_
            · intro a_ w_ hk_
              have h37 : a_.eval (.tmp 37) = (.string ⟨b.toArray⟩) := hk_.got 5 37 _ (by kernel_rfl) rfl rfl
              have h38 : a_.eval (.tmp 38) = (.int .i64 256) := hk_.got 6 38 _ (by kernel_rfl) rfl rfl
              have hx_ := hk_.ext
              clear hk_
              refine flow_plain rfl ?_
              unfold gives
              have hc_ : ∀ v, a_.eval (.const v) = v := fun _ => rfl
              have hn_ : ∀ f, a_.eval (.func f) = .func (.func f) #[] #[] := fun _ => rfl
              rw [HV.out] at h38
              have hst := str_take b N
              have hNb : N ≤ b.length := by rw [HBL.out]; exact hN
              generalize a_.eval = ρ_ at *
              go_simp
              exact ⟨Below.refl _ _, rfl⟩
            refine allFrom_cons ?_ ?_
            · intro a_ w_ hk_
              have h2 : a_.eval (.tmp 2) = .pointer (some ⟨w.heap.size, 0, none⟩) := hk_.old 2 (by kernel_rfl)
              have hx_ := hk_.ext
              clear hk_
              refine flow_plain rfl ?_
              unfold gives
              have hc_ : ∀ v, a_.eval (.const v) = v := fun _ => rfl
              have hn_ : ∀ f, a_.eval (.func f) = .func (.func f) #[] #[] := fun _ => rfl
              generalize a_.eval = ρ_ at *
              go_simp
              exact ⟨Below.refl _ _, rfl⟩
            refine allFrom_cons ?_ ?_
            · intro a_ w_ hk_
              have h40 : a_.eval (.tmp 40) = (.pointer (some ⟨w.heap.size, 0, none⟩)) := hk_.got 8 40 _ (by kernel_rfl) rfl rfl
              have hx_ := hk_.ext
              clear hk_
              refine flow_plain rfl ?_
              unfold gives
              have hc_ : ∀ v, a_.eval (.const v) = v := fun _ => rfl
              have hn_ : ∀ f, a_.eval (.func f) = .func (.func f) #[] #[] := fun _ => rfl
              have hcell := (hx_.cell (p := ⟨w.heap.size, 0, none⟩) l1).trans d0'
              generalize a_.eval = ρ_ at *
              go_simp
              exact ⟨Below.refl _ _, rfl⟩
            refine allFrom_cons ?_ ?_
            · intro a_ w_ hk_
              have h7 : a_.eval (.tmp 7) = .pointer (some ⟨g7, 0, none⟩) := hk_.old 7 (by kernel_rfl)
              have hx_ := hk_.ext
              clear hk_
              refine flow_plain rfl ?_
              unfold gives
              have hc_ : ∀ v, a_.eval (.const v) = v := fun _ => rfl
              have hn_ : ∀ f, a_.eval (.func f) = .func (.func f) #[] #[] := fun _ => rfl
              generalize a_.eval = ρ_ at *
              go_simp
              exact ⟨Below.refl _ _, rfl⟩
            refine allFrom_cons ?_ ?_
            · intro a_ w_ hk_
              have h42 : a_.eval (.tmp 42) = (.pointer (some ⟨g7, 0, none⟩)) := hk_.got 10 42 _ (by kernel_rfl) rfl rfl
              have hx_ := hk_.ext
              clear hk_
              refine flow_plain rfl ?_
              unfold gives
              have hc_ : ∀ v, a_.eval (.const v) = v := fun _ => rfl
              have hn_ : ∀ f, a_.eval (.func f) = .func (.func f) #[] #[] := fun _ => rfl
              have hcell := (hx_.cell (p := ⟨g7, 0, none⟩) l7).trans e70
              generalize a_.eval = ρ_ at *
              go_simp
              exact ⟨Below.refl _ _, rfl⟩
            refine allFrom_cons ?_ ?_
            · intro a_ w_ hk_
              have h41 : a_.eval (.tmp 41) = (.slice (some ⟨ba, oa, none⟩) D.n c') := hk_.got 9 41 _ (by kernel_rfl) rfl rfl
              have h43 : a_.eval (.tmp 43) = (.int .i64 (q : Int)) := hk_.got 11 43 _ (by kernel_rfl) rfl rfl
              have hx_ := hk_.ext
              clear hk_
              refine flow_plain rfl ?_
              unfold gives
              have hc_ : ∀ v, a_.eval (.const v) = v := fun _ => rfl
              have hn_ : ∀ f, a_.eval (.func f) = .func (.func f) #[] #[] := fun _ => rfl
              generalize a_.eval = ρ_ at *
              go_simp
              exact ⟨Below.refl _ _, rfl⟩
            refine allFrom_cons ?_ ?_
            · intro a_ w_ hk_
              have h44 : a_.eval (.tmp 44) = (.pointer (some ⟨ba, oa + q, none⟩)) := hk_.got 12 44 _ (by kernel_rfl) rfl rfl
              have hx_ := hk_.ext
              clear hk_
              refine flow_plain rfl ?_
              unfold gives
              have hc_ : ∀ v, a_.eval (.const v) = v := fun _ => rfl
              have hn_ : ∀ f, a_.eval (.func f) = .func (.func f) #[] #[] := fun _ => rfl
              have hcell := (hx_.cell (p := ⟨ba, oa + q, none⟩) hba8).trans hcg8
              generalize a_.eval = ρ_ at *
              go_simp
              exact ⟨Below.refl _ _, rfl⟩
            refine allFrom_cons ?_ ?_
            · intro a_ w_ hk_
              have h6 : a_.eval (.tmp 6) = .int .i64 256 := hk_.old 6 (by kernel_rfl)
              have hx_ := hk_.ext
              clear hk_
              refine flow_plain rfl ?_
              exact gives_move rfl ⟨Below.refl _ _, h6⟩
            refine allFrom_cons ?_ ?_
            · intro a_ w_ hk_
              have h45 : a_.eval (.tmp 45) = (.string ⟨og.toArray⟩) := hk_.got 13 45 _ (by kernel_rfl) rfl rfl
              have h46 : a_.eval (.tmp 46) = (.int .i64 256) := hk_.got 14 46 _ (by kernel_rfl) rfl rfl
              have hx_ := hk_.ext
              clear hk_
              refine flow_plain rfl ?_
              unfold gives
              have hc_ : ∀ v, a_.eval (.const v) = v := fun _ => rfl
              have hn_ : ∀ f, a_.eval (.func f) = .func (.func f) #[] #[] := fun _ => rfl
              rw [HV.out] at h46
              have hsd := str_drop og N og.length (Nat.le_refl _)
              have hNb : N ≤ og.length := by rw [HOL.out]; exact hN
              generalize a_.eval = ρ_ at *
              go_simp
              exact ⟨Below.refl _ _, rfl⟩
            refine allFrom_cons ?_ ?_
            · intro a_ w_ hk_
              have h39 : a_.eval (.tmp 39) = (.string ⟨(b.take N).toArray⟩) := hk_.got 7 39 _ (by kernel_rfl) rfl rfl
              have h47 : a_.eval (.tmp 47) = (.string ⟨(og.drop N).toArray⟩) := hk_.got 15 47 _ (by kernel_rfl) rfl rfl
              have hx_ := hk_.ext
              clear hk_
              refine flow_plain rfl ?_
              unfold gives
              have hc_ : ∀ v, a_.eval (.const v) = v := fun _ => rfl
              have hn_ : ∀ f, a_.eval (.func f) = .func (.func f) #[] #[] := fun _ => rfl
              have hcat : ¬ 9223372036854775807 < min N b.length + (og.length - N) := by rw [HBL.out, HOL.out]; omega
              have hcc := str_cat (b.take N) (og.drop N)
              generalize a_.eval = ρ_ at *
              go_simp
              exact ⟨Below.refl _ _, rfl⟩
            refine allFrom_cons ?_ ?_
            · intro a_ w_ hk_
              have h33 : a_.eval (.tmp 33) = (.slice (some ⟨ba, oa, none⟩) D.n c') := hk_.got 1 33 _ (by kernel_rfl) rfl rfl
              have h35 : a_.eval (.tmp 35) = (.int .i64 (q : Int)) := hk_.got 3 35 _ (by kernel_rfl) rfl rfl
              have h48 : a_.eval (.tmp 48) = (.string ⟨(b.take N ++ og.drop N).toArray⟩) := hk_.got 16 48 _ (by kernel_rfl) rfl rfl
              have hx_ := hk_.ext
              clear hk_
              refine flow_plain rfl ?_
              unfold gives
              have hc_ : ∀ v, a_.eval (.const v) = v := fun _ => rfl
              have hn_ : ∀ f, a_.eval (.func f) = .func (.func f) #[] #[] := fun _ => rfl
              generalize a_.eval = ρ_ at *
              go_simp
              exact (HSET.out w_ ((HS8.out.below hw8 hx_).sls (Nat.le_trans hw8 hx_.size))).mono fun e w' ⟨A3, c3, h1, h2, h3⟩ => ⟨_, h1, h3, Nat.le_trans hw8 (Nat.le_trans hx_.size h3.size), A3, c3, rfl, h2.slt (Nat.le_trans hw8 hx_.size)⟩
            exact allFrom_nil
          intro f_ w_ hx_ hf_
          have h32 : f_ 32 = (.pointer (some ⟨w.heap.size, 0, none⟩)) := hf_ 0 32 _ (by decide) rfl rfl
          have h33 : f_ 33 = (.slice (some ⟨ba, oa, none⟩) D.n c') := hf_ 1 33 _ (by decide) rfl rfl
          have h34 : f_ 34 = (.pointer (some ⟨g7, 0, none⟩)) := hf_ 2 34 _ (by decide) rfl rfl
          have h35 : f_ 35 = (.int .i64 (q : Int)) := hf_ 3 35 _ (by decide) rfl rfl
          have h36 : f_ 36 = (.pointer (some ⟨g7, 1, none⟩)) := hf_ 4 36 _ (by decide) rfl rfl
          have h37 : f_ 37 = (.string ⟨b.toArray⟩) := hf_ 5 37 _ (by decide) rfl rfl
          have h38 : f_ 38 = (.int .i64 256) := hf_ 6 38 _ (by decide) rfl rfl
          have h39 : f_ 39 = (.string ⟨(b.take N).toArray⟩) := hf_ 7 39 _ (by decide) rfl rfl
          have h40 : f_ 40 = (.pointer (some ⟨w.heap.size, 0, none⟩)) := hf_ 8 40 _ (by decide) rfl rfl
          have h41 : f_ 41 = (.slice (some ⟨ba, oa, none⟩) D.n c') := hf_ 9 41 _ (by decide) rfl rfl
          have h42 : f_ 42 = (.pointer (some ⟨g7, 0, none⟩)) := hf_ 10 42 _ (by decide) rfl rfl
          have h43 : f_ 43 = (.int .i64 (q : Int)) := hf_ 11 43 _ (by decide) rfl rfl
          have h44 : f_ 44 = (.pointer (some ⟨ba, oa + q, none⟩)) := hf_ 12 44 _ (by decide) rfl rfl
          have h45 : f_ 45 = (.string ⟨og.toArray⟩) := hf_ 13 45 _ (by decide) rfl rfl
          have h46 : f_ 46 = (.int .i64 256) := hf_ 14 46 _ (by decide) rfl rfl
          have h47 : f_ 47 = (.string ⟨(og.drop N).toArray⟩) := hf_ 15 47 _ (by decide) rfl rfl
          have h48 : f_ 48 = (.string ⟨(b.take N ++ og.drop N).toArray⟩) := hf_ 16 48 _ (by decide) rfl rfl
          have h49 : (FP.sls w.heap.size D.n (rGood { D with good := crashG D.good ((D.loose.zip front).take (k + 1)) })).p (f_ 49) w_ := hf_ 17 49 _ (by decide) rfl rfl
          simp only [mix, List.drop_succ_cons, List.drop_zero, h32, h33, h34, h35, h36, h37, h38, h39, h40, h41, h42, h43, h44, h45, h46, h47, h48]
          clear h32 h33 h34 h35 h36 h37 h38 h39 h40 h41 h42 h43 h44 h45 h46 h47 h48
          clear hf_
          obtain ⟨_, A3, c3, h49, hS3⟩ := h49
          rw [h49]
          have h1w := H1.out.below hx_ l1
          have h2w := H2.out.below hx_ H2.out.lt
          have hlw := HL8.out.keep fun p hp => hx_.cell (Nat.lt_of_lt_of_le hp hw8)
          have hbw := bx_trans HB8.out hx_
          have f0 := h1w.frozen 0
          have d0w := cellD0 h1w
          have hP := setD0 h1w A3 D.n c3
          have h2P := hP.other h2w hne2
          have hbP := bx_put hbw hP (Nat.le_refl _)
          have hS4 := hS3.put (Nat.le_refl _) h1w hP
          have hl4 := hlw.below (hP.below (Nat.le_refl _))
          clear HS8 H1 H2 HL8 HB8 HSET d0' hcg8 hlw h1w h2w hS3 e70 e71
          go_wp2_with fail
          refine ⟨⟨k + 1, A3, c3, hkn, hkF, rfl, hS4, hP.blk, h2P, hl4, hbP⟩, ?_⟩
          show ((D.loose.length : Int) - ((k : Int) + 1)).toNat < ((D.loose.length : Int) - (k : Int)).toNat
          omega
        · skip
          have HV := hid hv
          have hwy : wrap64 (y.toNat : Int) = (y.toNat : Int) := by have := y.toNat_lt; simp only [wrap64]; omega
          clear hv
          go_wp2_with fail
          refine wp_hold ?_
          go_wp2_with (first
            | ((with_reducible refine wpAtC ?_); refine wpList_load_agg rfl _ _ rfl _ _ rfl (lcell ((q : Int), b)) (aggRLc _) HLX.out ?_)
            | (refine wpList_alloc rfl _ rfl zeroRL ?_; intro g7 w7 hg7 hg7' hblk7 hb7)
            | ((with_reducible refine wpAtC ?_); refine wpList_store_agg rfl _ _ _ rfl _ _ rfl (lcell ((q : Int), b)).toArray rfl (aggRLc _) hblk7 (Nat.le_refl 2) (oneRL _) ?_; intro w8 hp8))
          have hb8 := bx_put hb7 hp8 hg7
          have h7 : Blk w8 g7 tRL (lcell ((q : Int), b)).toArray := hp8.blk
          have e70 : w8.cell? ⟨g7, 0, none⟩ = some (.int .i64 (q : Int)) := h7.cell 0
          have e71 : w8.cell? ⟨g7, 1, none⟩ = some (.string ⟨b.toArray⟩) := h7.cell 1
          have l7 := h7.lt
          have H1 := hid (HB1.out.below hb8 lr1)
          have d0' := cellD0 H1.out
          have l1 := H1.out.lt
          have H2 := hid (HB2.out.below hb8 lr2)
          have HS8 := hid (HS.out.below hwr hb8)
          have HL8 := hid (HLR.out.keep fun p hp => hb8.cell (Nat.lt_of_lt_of_le hp hwr))
          have HB8 := hid (bx_trans HBR.out hb8)
          have hw8 := HB8.out.size
          have hcg8 := (hb8.cell (p := ⟨ba, oa + q, none⟩) hba).trans hcg
          have hba8 := Nat.lt_of_lt_of_le hba hb8.size
          clear hca hcb hcg d0 d1 hp8 hblk7 hb7 hb8 h7 HB1 HB2 HS HLR HBR
          refine wp_flow (by kernel_rfl) [0, 1, 0, 4, 0, 16, 0, 112, 0, 256, 0, 1024, 3840, 7936, 0, 32512, 65520, 131071, 262143, 524287] 18 [false, false, false, false, false, false, false, false, false, false, false, false, false, false, false, false, false, false, false, false, false, false, false, false, false, false, false, false, false, false, false, false, true, true, true, true, true, true, true, true, true, true, true, true, true, true, true, true, true, true, false] (by kernel_rfl) (by decide) (by kernel_rfl) [FP.eq (.pointer (some ⟨w.heap.size, 0, none⟩)), FP.eq (.slice (some ⟨ba, oa, none⟩) D.n c'), FP.eq (.pointer (some ⟨g7, 0, none⟩)), FP.eq (.int .i64 (q : Int)), FP.eq (.pointer (some ⟨g7, 1, none⟩)), FP.eq (.string ⟨b.toArray⟩), FP.eq (.int .i64 (y.toNat : Int)), FP.eq (.string ⟨(b.take N).toArray⟩), FP.eq (.pointer (some ⟨w.heap.size, 0, none⟩)), FP.eq (.slice (some ⟨ba, oa, none⟩) D.n c'), FP.eq (.pointer (some ⟨g7, 0, none⟩)), FP.eq (.int .i64 (q : Int)), FP.eq (.pointer (some ⟨ba, oa + q, none⟩)), FP.eq (.string ⟨og.toArray⟩), FP.eq (.int .i64 (y.toNat : Int)), FP.eq (.string ⟨(og.drop N).toArray⟩), FP.eq (.string ⟨(b.take N ++ og.drop N).toArray⟩), FP.sls w.heap.size D.n (rGood { D with good := crashG D.good ((D.loose.zip front).take (k + 1)) })] ?_ ?_
          · refine allFrom_cons ?_ ?_
            · intro a_ w_ hk_
              have h2 : a_.eval (.tmp 2) = .pointer (some ⟨w.heap.size, 0, none⟩) := hk_.old 2 (by kernel_rfl)
              have hx_ := hk_.ext
              clear hk_
              refine flow_plain rfl ?_
              unfold gives
              have hc_ : ∀ v, a_.eval (.const v) = v := fun _ => rfl
              have hn_ : ∀ f, a_.eval (.func f) = .func (.func f) #[] #[] := fun _ => rfl
              generalize a_.eval = ρ_ at *
              go_simp
              exact ⟨Below.refl _ _, rfl⟩
            refine allFrom_cons ?_ ?_
            · intro a_ w_ hk_
              have h32 : a_.eval (.tmp 32) = (.pointer (some ⟨w.heap.size, 0, none⟩)) := hk_.got 0 32 _ (by kernel_rfl) rfl rfl
              have hx_ := hk_.ext
              clear hk_
              refine flow_plain rfl ?_
              unfold gives
              have hc_ : ∀ v, a_.eval (.const v) = v := fun _ => rfl
              have hn_ : ∀ f, a_.eval (.func f) = .func (.func f) #[] #[] := fun _ => rfl
              have hcell := (hx_.cell (p := ⟨w.heap.size, 0, none⟩) l1).trans d0'
              generalize a_.eval = ρ_ at *
              go_simp
              exact ⟨Below.refl _ _, rfl⟩
            refine allFrom_cons ?_ ?_
            · intro a_ w_ hk_
              have h7 : a_.eval (.tmp 7) = .pointer (some ⟨g7, 0, none⟩) := hk_.old 7 (by kernel_rfl)
              have hx_ := hk_.ext
              clear hk_
              refine flow_plain rfl ?_
              unfold gives
              have hc_ : ∀ v, a_.eval (.const v) = v := fun _ => rfl
              have hn_ : ∀ f, a_.eval (.func f) = .func (.func f) #[] #[] := fun _ => rfl
              generalize a_.eval = ρ_ at *
              go_simp
              exact ⟨Below.refl _ _, rfl⟩
            refine allFrom_cons ?_ ?_
            · intro a_ w_ hk_
              have h34 : a_.eval (.tmp 34) = (.pointer (some ⟨g7, 0, none⟩)) := hk_.got 2 34 _ (by kernel_rfl) rfl rfl
              have hx_ := hk_.ext
              clear hk_
              refine flow_plain rfl ?_
              unfold gives
              have hc_ : ∀ v, a_.eval (.const v) = v := fun _ => rfl
              have hn_ : ∀ f, a_.eval (.func f) = .func (.func f) #[] #[] := fun _ => rfl
              have hcell := (hx_.cell (p := ⟨g7, 0, none⟩) l7).trans e70
              generalize a_.eval = ρ_ at *
              go_simp
              exact ⟨Below.refl _ _, rfl⟩
            refine allFrom_cons ?_ ?_
            · intro a_ w_ hk_
              have h7 : a_.eval (.tmp 7) = .pointer (some ⟨g7, 0, none⟩) := hk_.old 7 (by kernel_rfl)
              have hx_ := hk_.ext
              clear hk_
              refine flow_plain rfl ?_
              unfold gives
              have hc_ : ∀ v, a_.eval (.const v) = v := fun _ => rfl
              have hn_ : ∀ f, a_.eval (.func f) = .func (.func f) #[] #[] := fun _ => rfl
              generalize a_.eval = ρ_ at *
              go_simp
              exact ⟨Below.refl _ _, rfl⟩
            refine allFrom_cons ?_ ?_
            · intro a_ w_ hk_
              have h36 : a_.eval (.tmp 36) = (.pointer (some ⟨g7, 1, none⟩)) := hk_.got 4 36 _ (by kernel_rfl) rfl rfl
              have hx_ := hk_.ext
              clear hk_
              refine flow_plain rfl ?_
              unfold gives
              have hc_ : ∀ v, a_.eval (.const v) = v := fun _ => rfl
              have hn_ : ∀ f, a_.eval (.func f) = .func (.func f) #[] #[] := fun _ => rfl
              have hcell := (hx_.cell (p := ⟨g7, 1, none⟩) l7).trans e71
              generalize a_.eval = ρ_ at *
              go_simp
              exact ⟨Below.refl _ _, rfl⟩
            refine allFrom_cons ?_ ?_
            · intro a_ w_ hk_
              have h6 : a_.eval (.tmp 6) = .int .i64 (y.toNat : Int) := hk_.old 6 (by kernel_rfl)
              have hx_ := hk_.ext
              clear hk_
              refine flow_plain rfl ?_
              exact gives_move rfl ⟨Below.refl _ _, h6⟩
            refine allFrom_cons ?_ ?_
            · intro a_ w_ hk_
              have h37 : a_.eval (.tmp 37) = (.string ⟨b.toArray⟩) := hk_.got 5 37 _ (by kernel_rfl) rfl rfl
              have h38 : a_.eval (.tmp 38) = (.int .i64 (y.toNat : Int)) := hk_.got 6 38 _ (by kernel_rfl) rfl rfl
              have hx_ := hk_.ext
              clear hk_
              refine flow_plain rfl ?_
              unfold gives
              have hc_ : ∀ v, a_.eval (.const v) = v := fun _ => rfl
              have hn_ : ∀ f, a_.eval (.func f) = .func (.func f) #[] #[] := fun _ => rfl
              rw [HV.out] at h38
              have hst := str_take b N
              have hNb : N ≤ b.length := by rw [HBL.out]; exact hN
              generalize a_.eval = ρ_ at *
              go_simp
              exact ⟨Below.refl _ _, rfl⟩
            refine allFrom_cons ?_ ?_
            · intro a_ w_ hk_
              have h2 : a_.eval (.tmp 2) = .pointer (some ⟨w.heap.size, 0, none⟩) := hk_.old 2 (by kernel_rfl)
              have hx_ := hk_.ext
              clear hk_
              refine flow_plain rfl ?_
              unfold gives
              have hc_ : ∀ v, a_.eval (.const v) = v := fun _ => rfl
              have hn_ : ∀ f, a_.eval (.func f) = .func (.func f) #[] #[] := fun _ => rfl
              generalize a_.eval = ρ_ at *
              go_simp
              exact ⟨Below.refl _ _, rfl⟩
            refine allFrom_cons ?_ ?_
            · intro a_ w_ hk_
              have h40 : a_.eval (.tmp 40) = (.pointer (some ⟨w.heap.size, 0, none⟩)) := hk_.got 8 40 _ (by kernel_rfl) rfl rfl
              have hx_ := hk_.ext
              clear hk_
              refine flow_plain rfl ?_
              unfold gives
              have hc_ : ∀ v, a_.eval (.const v) = v := fun _ => rfl
              have hn_ : ∀ f, a_.eval (.func f) = .func (.func f) #[] #[] := fun _ => rfl
              have hcell := (hx_.cell (p := ⟨w.heap.size, 0, none⟩) l1).trans d0'
              generalize a_.eval = ρ_ at *
              go_simp
              exact ⟨Below.refl _ _, rfl⟩
            refine allFrom_cons ?_ ?_
            · intro a_ w_ hk_
              have h7 : a_.eval (.tmp 7) = .pointer (some ⟨g7, 0, none⟩) := hk_.old 7 (by kernel_rfl)
              have hx_ := hk_.ext
              clear hk_
              refine flow_plain rfl ?_
              unfold gives
              have hc_ : ∀ v, a_.eval (.const v) = v := fun _ => rfl
              have hn_ : ∀ f, a_.eval (.func f) = .func (.func f) #[] #[] := fun _ => rfl
              generalize a_.eval = ρ_ at *
              go_simp
              exact ⟨Below.refl _ _, rfl⟩
            refine allFrom_cons ?_ ?_
            · intro a_ w_ hk_
              have h42 : a_.eval (.tmp 42) = (.pointer (some ⟨g7, 0, none⟩)) := hk_.got 10 42 _ (by kernel_rfl) rfl rfl
              have hx_ := hk_.ext
              clear hk_
              refine flow_plain rfl ?_
              unfold gives
              have hc_ : ∀ v, a_.eval (.const v) = v := fun _ => rfl
              have hn_ : ∀ f, a_.eval (.func f) = .func (.func f) #[] #[] := fun _ => rfl
              have hcell := (hx_.cell (p := ⟨g7, 0, none⟩) l7).trans e70
              generalize a_.eval = ρ_ at *
              go_simp
              exact ⟨Below.refl _ _, rfl⟩
            refine allFrom_cons ?_ ?_
            · intro a_ w_ hk_
              have h41 : a_.eval (.tmp 41) = (.slice (some ⟨ba, oa, none⟩) D.n c') := hk_.got 9 41 _ (by kernel_rfl) rfl rfl
              have h43 : a_.eval (.tmp 43) = (.int .i64 (q : Int)) := hk_.got 11 43 _ (by kernel_rfl) rfl rfl
              have hx_ := hk_.ext
              clear hk_
              refine flow_plain rfl ?_
              unfold gives
              have hc_ : ∀ v, a_.eval (.const v) = v := fun _ => rfl
              have hn_ : ∀ f, a_.eval (.func f) = .func (.func f) #[] #[] := fun _ => rfl
              generalize a_.eval = ρ_ at *
              go_simp
              exact ⟨Below.refl _ _, rfl⟩
            refine allFrom_cons ?_ ?_
            · intro a_ w_ hk_
              have h44 : a_.eval (.tmp 44) = (.pointer (some ⟨ba, oa + q, none⟩)) := hk_.got 12 44 _ (by kernel_rfl) rfl rfl
              have hx_ := hk_.ext
              clear hk_
              refine flow_plain rfl ?_
              unfold gives
              have hc_ : ∀ v, a_.eval (.const v) = v := fun _ => rfl
              have hn_ : ∀ f, a_.eval (.func f) = .func (.func f) #[] #[] := fun _ => rfl
              have hcell := (hx_.cell (p := ⟨ba, oa + q, none⟩) hba8).trans hcg8
              generalize a_.eval = ρ_ at *
              go_simp
              exact ⟨Below.refl _ _, rfl⟩
            refine allFrom_cons ?_ ?_
            · intro a_ w_ hk_
              have h6 : a_.eval (.tmp 6) = .int .i64 (y.toNat : Int) := hk_.old 6 (by kernel_rfl)
              have hx_ := hk_.ext
              clear hk_
              refine flow_plain rfl ?_
              exact gives_move rfl ⟨Below.refl _ _, h6⟩
            refine allFrom_cons ?_ ?_
            · intro a_ w_ hk_
              have h45 : a_.eval (.tmp 45) = (.string ⟨og.toArray⟩) := hk_.got 13 45 _ (by kernel_rfl) rfl rfl
              have h46 : a_.eval (.tmp 46) = (.int .i64 (y.toNat : Int)) := hk_.got 14 46 _ (by kernel_rfl) rfl rfl
              have hx_ := hk_.ext
              clear hk_
              refine flow_plain rfl ?_
              unfold gives
              have hc_ : ∀ v, a_.eval (.const v) = v := fun _ => rfl
              have hn_ : ∀ f, a_.eval (.func f) = .func (.func f) #[] #[] := fun _ => rfl
              rw [HV.out] at h46
              have hsd := str_drop og N og.length (Nat.le_refl _)
              have hNb : N ≤ og.length := by rw [HOL.out]; exact hN
              generalize a_.eval = ρ_ at *
              go_simp
              exact ⟨Below.refl _ _, rfl⟩
            refine allFrom_cons ?_ ?_
            · intro a_ w_ hk_
              have h39 : a_.eval (.tmp 39) = (.string ⟨(b.take N).toArray⟩) := hk_.got 7 39 _ (by kernel_rfl) rfl rfl
              have h47 : a_.eval (.tmp 47) = (.string ⟨(og.drop N).toArray⟩) := hk_.got 15 47 _ (by kernel_rfl) rfl rfl
              have hx_ := hk_.ext
              clear hk_
              refine flow_plain rfl ?_
              unfold gives
              have hc_ : ∀ v, a_.eval (.const v) = v := fun _ => rfl
              have hn_ : ∀ f, a_.eval (.func f) = .func (.func f) #[] #[] := fun _ => rfl
              have hcat : ¬ 9223372036854775807 < min N b.length + (og.length - N) := by rw [HBL.out, HOL.out]; omega
              have hcc := str_cat (b.take N) (og.drop N)
              generalize a_.eval = ρ_ at *
              go_simp
              exact ⟨Below.refl _ _, rfl⟩
            refine allFrom_cons ?_ ?_
            · intro a_ w_ hk_
              have h33 : a_.eval (.tmp 33) = (.slice (some ⟨ba, oa, none⟩) D.n c') := hk_.got 1 33 _ (by kernel_rfl) rfl rfl
              have h35 : a_.eval (.tmp 35) = (.int .i64 (q : Int)) := hk_.got 3 35 _ (by kernel_rfl) rfl rfl
              have h48 : a_.eval (.tmp 48) = (.string ⟨(b.take N ++ og.drop N).toArray⟩) := hk_.got 16 48 _ (by kernel_rfl) rfl rfl
              have hx_ := hk_.ext
              clear hk_
              refine flow_plain rfl ?_
              unfold gives
              have hc_ : ∀ v, a_.eval (.const v) = v := fun _ => rfl
              have hn_ : ∀ f, a_.eval (.func f) = .func (.func f) #[] #[] := fun _ => rfl
              generalize a_.eval = ρ_ at *
              go_simp
              exact (HSET.out w_ ((HS8.out.below hw8 hx_).sls (Nat.le_trans hw8 hx_.size))).mono fun e w' ⟨A3, c3, h1, h2, h3⟩ => ⟨_, h1, h3, Nat.le_trans hw8 (Nat.le_trans hx_.size h3.size), A3, c3, rfl, h2.slt (Nat.le_trans hw8 hx_.size)⟩
            exact allFrom_nil
          intro f_ w_ hx_ hf_
          have h32 : f_ 32 = (.pointer (some ⟨w.heap.size, 0, none⟩)) := hf_ 0 32 _ (by decide) rfl rfl
          have h33 : f_ 33 = (.slice (some ⟨ba, oa, none⟩) D.n c') := hf_ 1 33 _ (by decide) rfl rfl
          have h34 : f_ 34 = (.pointer (some ⟨g7, 0, none⟩)) := hf_ 2 34 _ (by decide) rfl rfl
          have h35 : f_ 35 = (.int .i64 (q : Int)) := hf_ 3 35 _ (by decide) rfl rfl
          have h36 : f_ 36 = (.pointer (some ⟨g7, 1, none⟩)) := hf_ 4 36 _ (by decide) rfl rfl
          have h37 : f_ 37 = (.string ⟨b.toArray⟩) := hf_ 5 37 _ (by decide) rfl rfl
          have h38 : f_ 38 = (.int .i64 (y.toNat : Int)) := hf_ 6 38 _ (by decide) rfl rfl
          have h39 : f_ 39 = (.string ⟨(b.take N).toArray⟩) := hf_ 7 39 _ (by decide) rfl rfl
          have h40 : f_ 40 = (.pointer (some ⟨w.heap.size, 0, none⟩)) := hf_ 8 40 _ (by decide) rfl rfl
          have h41 : f_ 41 = (.slice (some ⟨ba, oa, none⟩) D.n c') := hf_ 9 41 _ (by decide) rfl rfl
          have h42 : f_ 42 = (.pointer (some ⟨g7, 0, none⟩)) := hf_ 10 42 _ (by decide) rfl rfl
          have h43 : f_ 43 = (.int .i64 (q : Int)) := hf_ 11 43 _ (by decide) rfl rfl
          have h44 : f_ 44 = (.pointer (some ⟨ba, oa + q, none⟩)) := hf_ 12 44 _ (by decide) rfl rfl
          have h45 : f_ 45 = (.string ⟨og.toArray⟩) := hf_ 13 45 _ (by decide) rfl rfl
          have h46 : f_ 46 = (.int .i64 (y.toNat : Int)) := hf_ 14 46 _ (by decide) rfl rfl
          have h47 : f_ 47 = (.string ⟨(og.drop N).toArray⟩) := hf_ 15 47 _ (by decide) rfl rfl
          have h48 : f_ 48 = (.string ⟨(b.take N ++ og.drop N).toArray⟩) := hf_ 16 48 _ (by decide) rfl rfl
          have h49 : (FP.sls w.heap.size D.n (rGood { D with good := crashG D.good ((D.loose.zip front).take (k + 1)) })).p (f_ 49) w_ := hf_ 17 49 _ (by decide) rfl rfl
          simp only [mix, List.drop_succ_cons, List.drop_zero, h32, h33, h34, h35, h36, h37, h38, h39, h40, h41, h42, h43, h44, h45, h46, h47, h48]
          clear h32 h33 h34 h35 h36 h37 h38 h39 h40 h41 h42 h43 h44 h45 h46 h47 h48
          clear hf_
          obtain ⟨_, A3, c3, h49, hS3⟩ := h49
          rw [h49]
          have h1w := H1.out.below hx_ l1
          have h2w := H2.out.below hx_ H2.out.lt
          have hlw := HL8.out.keep fun p hp => hx_.cell (Nat.lt_of_lt_of_le hp hw8)
          have hbw := bx_trans HB8.out hx_
          have f0 := h1w.frozen 0
          have d0w := cellD0 h1w
          have hP := setD0 h1w A3 D.n c3
          have h2P := hP.other h2w hne2
          have hbP := bx_put hbw hP (Nat.le_refl _)
          have hS4 := hS3.put (Nat.le_refl _) h1w hP
          have hl4 := hlw.below (hP.below (Nat.le_refl _))
          clear HS8 H1 H2 HL8 HB8 HSET d0' hcg8 hlw h1w h2w hS3 e70 e71
          go_wp2_with fail
          refine ⟨⟨k + 1, A3, c3, hkn, hkF, rfl, hS4, hP.blk, h2P, hl4, hbP⟩, ?_⟩
          show ((D.loose.length : Int) - ((k : Int) + 1)).toNat < ((D.loose.length : Int) - (k : Int)).toNat
          omega
      · have hkif : ¬ (k : Int) < (front.length : Int) := by omega
        have hki : (k : Int) < (D.loose.length : Int) := by omega
        have hzk : ((D.loose.zip front).take k) = D.loose.zip front := List.take_of_length_le (by rw [List.length_zip]; omega)
        rw [hzk] at hS
        have HS := hid hS
        clear hS hzk
        go_wp2_with fail
        refine wp_hold ?_
        go_wp2_with (first
          | ((with_reducible refine wpAtC ?_); refine wpList_gives rfl (gives_buildP tRD _ rfl [(0, .slice A' D.n c'), (2, .int .i64 (-1))] rfl (bltRDg A' D.n c') (S := fun v w' => v = .agg (rcs A' D.n c' none 0 0 (-1) false).toArray ∧ w' = wr) ⟨rfl, rfl⟩) ?_; rintro v9 w9 ⟨rfl, rfl⟩; simp only [Act.put, List.setIfInBounds_toArray, List.set_cons_succ, List.set_cons_zero])
          | ((with_reducible refine wpAtC ?_); refine wpList_store_agg rfl _ _ _ rfl _ _ rfl (rcs A' D.n c' none 0 0 (-1) false).toArray rfl aggRD h2r (Nat.le_refl 4) oneRD ?_; intro w8 hp8))
        refine bodyPost_ret (results_agg rfl rfl (aggRD (A := A') (n := D.n) (c := c') (A2 := none) (m := 0) (c2 := 0) (f := -1) (d := false)) (blk_cells hp8.blk)) rfl ?_
        have hbE := bx_put hbr hp8 hle2
        have hSE := (HS.out.put hle2 h2r hp8).sls hbE.size
        exact ⟨A', c', rfl, ⟨hSE.2.2, by have := hSE.1; rw [rGood_len] at this; exact this, hSE.2.1, .inl rfl, Nat.le_refl _, Nat.zero_le _, (HS.out.put hle2 h2r hp8).ty, TyA.nil _ _⟩, hbE⟩
    · have hki : ¬ (k : Int) < (D.loose.length : Int) := by omega
      have hzk : ((D.loose.zip front).take k) = D.loose.zip front := List.take_of_length_le (by rw [List.length_zip]; omega)
      rw [hzk] at hS
      have HS := hid hS
      clear hS hzk
      go_wp2_with fail
      refine wp_hold ?_
      go_wp2_with (first
        | ((with_reducible refine wpAtC ?_); refine wpList_gives rfl (gives_buildP tRD _ rfl [(0, .slice A' D.n c'), (2, .int .i64 (-1))] rfl (bltRDg A' D.n c') (S := fun v w' => v = .agg (rcs A' D.n c' none 0 0 (-1) false).toArray ∧ w' = wr) ⟨rfl, rfl⟩) ?_; rintro v9 w9 ⟨rfl, rfl⟩; simp only [Act.put, List.setIfInBounds_toArray, List.set_cons_succ, List.set_cons_zero])
        | ((with_reducible refine wpAtC ?_); refine wpList_store_agg rfl _ _ _ rfl _ _ rfl (rcs A' D.n c' none 0 0 (-1) false).toArray rfl aggRD h2r (Nat.le_refl 4) oneRD ?_; intro w8 hp8))
      refine bodyPost_ret (results_agg rfl rfl (aggRD (A := A') (n := D.n) (c := c') (A2 := none) (m := 0) (c2 := 0) (f := -1) (d := false)) (blk_cells hp8.blk)) rfl ?_
      have hbE := bx_put hbr hp8 hle2
      have hSE := (HS.out.put hle2 h2r hp8).sls hbE.size
      exact ⟨A', c', rfl, ⟨hSE.2.2, by have := hSE.1; rw [rGood_len] at this; exact this, hSE.2.1, .inl rfl, Nat.le_refl _, Nat.zero_le _, (HS.out.put hle2 h2r hp8).ty, TyA.nil _ _⟩, hbE⟩
end Go.Proofs.Ytnbjoebdbbhbkaa
