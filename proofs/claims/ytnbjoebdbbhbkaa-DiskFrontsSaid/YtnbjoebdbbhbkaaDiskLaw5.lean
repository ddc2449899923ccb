/- DiskFronts: its walk. -/
import Derived.Test.YtnbjoebdbbhbkaaDiskLaw5a
namespace Go.Proofs.Ytnbjoebdbbhbkaa
open Go.RowKit
set_option linter.unusedVariables false

theorem lit_one {w : World} {y : UInt8} {v : Int} (h : (y.toNat : Int) = v) : Rd (w.alloc (.cells #[.int .u8 v] 5)) (w.heap.size + 1) (some ⟨w.heap.size, 0, none⟩) ([y].map cb) ∧ Out (w.alloc (.cells #[.int .u8 v] 5)) (some ⟨w.heap.size, 0, none⟩) := by
  subst h
  exact lit_rd (w := w) (l := [y])
theorem Lives.le {D : DS} {n k : Nat} (h : Lives D n k) : LivesLe D n k := ⟨h.n, h.fails, h.dead, Nat.le_of_eq h.loose⟩
theorem blkF_rd {w : World} {g n a q : Nat} {f : Nat → UInt8} (h : Blk w g 5 (wantA n f)) (ha : a = 256 * q) (hn : a + 256 ≤ n) : Rd w w.heap.size (some ⟨g, a, none⟩) ((blkF f q).map cb) := by
  refine .inr ⟨g, a, rfl, h.lt, fun i v hv => ?_⟩
  have hi : i < 256 := by
    have := (List.getElem?_eq_some_iff.1 hv).1
    rwa [List.length_map, blkF_length] at this
  rw [h.cell, wantA_get (by omega), ← hv, List.getElem?_map, List.getElem?_eq_getElem (by rw [blkF_length]; exact hi), blkF_get]
  subst ha
  rfl
set_option maxRecDepth 100000 in
set_option maxHeartbeats 4000000 in
theorem DiskFronts_walk (w : World) (A0 : Option Addr) (c0 : Nat) (l0 : List UInt8) (hc0 : l0.length ≤ c0) (hm0 : c0 ≤ maxLen) (hr0 : Rd w w.heap.size A0 (l0.map cb))
    (A1 : Option Addr) (c1 : Nat) (l1 : List UInt8) (hc1 : l1.length ≤ c1) (hm1 : c1 ≤ maxLen) (hr1 : Rd w w.heap.size A1 (l1.map cb))
    (A2 : Option Addr) (c2 : Nat) (l2 : List UInt8) (hc2 : l2.length ≤ c2) (hm2 : c2 ≤ maxLen) (hr2 : Rd w w.heap.size A2 (l2.map cb)) :
    Calls Try.prog 6 #[.slice A0 l0.length c0, .slice A1 l1.length c1, .slice A2 l2.length c2] w fun e w' => e = .returned (.bool true) ∧ Below w.heap.size w w' := by
  have hmx2 : l2.length ≤ maxLen := by omega
  unfold maxLen at hm0 hm1 hm2
  have hR0 := hid hr0
  have hR1 := hid hr1
  have hR2 := hid hr2
  clear hr0 hr1 hr2
  have hmk : ∀ (N : Nat), N ≤ 2048 → ∀ w : World, (Instr.makeSlice 22 (.int .i64 (N : Int)) (.int .i64 (N : Int))).run Try.prog w = .ok (.slice (some ⟨w.heap.size, 0, none⟩) N N) (w.alloc (.cells (zrow N (.int .u8 0)) 5)) := fun N h => run_mk1 elU8 .i64 .i64 N (by omega) (by omega)
  go_enter Try.func6, Try.ntmps6
  go_wp2_with fail
  refine (awake_any _).mono ?_
  rintro e w1 ⟨rfl, hb1⟩
  have hmk0 := hid hmk
  clear hmk
  obtain ⟨n, hnl⟩ : ∃ n, n = l0.length := ⟨_, rfl⟩
  rw [← hnl]
  rw [← hnl] at hc0
  have HNL := hid hnl
  clear hnl
  by_cases hn0 : n = 0
  · subst hn0
    go_wp2
    go_ret
    exact ⟨rfl, hb1⟩
  have e0 : ((n : Int) == 0) = false := by simpa using hn0
  by_cases hn8 : 8 < n
  · clear hn0
    go_wp2
    go_ret
    exact ⟨rfl, hb1⟩
  by_cases hs1 : 20 < l1.length
  · clear hn0
    go_wp2
    go_ret
    exact ⟨rfl, hb1⟩
  have hn1 : 1 ≤ n := by omega
  clear hn0
  go_wp2_with fail
  refine (New_yes w1 n hn1 (by omega)).mono ?_
  rintro e w2 ⟨g, rfl, hd2, hb2⟩
  have hb12 := bx_trans hb1 hb2
  have hB := hb1.size
  have hB2 := hb2.size
  obtain ⟨N, hN⟩ : ∃ N : Nat, N = 256 * n := ⟨_, rfl⟩
  have hNm : 256 * (n : Int) = (N : Int) := by omega
  have hmk := hmk0.out N (by omega)
  have hd3 := hd2.below (bx_alloc (Below.refl _ w2) (.cells (zrow N (.int .u8 0)) 5))
  have hb3 : Below w.heap.size w (w2.alloc (.cells (zrow N (.int .u8 0)) 5)) := bx_alloc hb12 _
  have hbl3 : Blk (w2.alloc (.cells (zrow N (.int .u8 0)) 5)) w2.heap.size 5 (wantA N fun _ => 0) := by
    rw [← wantA_zero]
    exact Blk.new w2 _ _
  clear hd2
  have HN := hid hN
  clear hN
  go_wp2
  clear hNm
  have hgw : w.heap.size ≤ w2.heap.size := by omega
  generalize hw3 : w2.alloc (.cells (zrow N (.int .u8 0)) 5) = w3 at *
  clear hw3
  have hg2 : w2.heap.size < w3.heap.size := hbl3.lt
  generalize w2.heap.size = gl at *
  go_loopw [12] (fun j wr => ∃ (i : Nat) (D : DS) (f : Nat → UInt8), i ≤ n ∧ j = .int .i64 i ∧ IsDisk wr w1.heap.size g D ∧ Lives D n i ∧ MatchF (fun j => readAt D (j : Int)) i f ∧ Blk wr gl 5 (wantA N f) ∧ Below w.heap.size w wr) (fun j _ => n - (intOf j).toNat)
  case atStart => exact ⟨0, _, _, by omega, rfl, hd3, .new, fun j hj => absurd hj (by omega), hbl3, hb3⟩
  case round =>
    obtain ⟨i, D, f, hi, rfl, hD, hL, hM, hblk, hbr⟩ := hrel
    clear hd3 hbl3 hb3
    by_cases hlt : i < n
    · have hlt0 : i < l0.length := by rw [← HNL.out]; exact hlt
      obtain ⟨b, off, rfl, hbb, hd⟩ := hR0.out.at_ (k := i) (by simpa using hlt0)
      have hcw : w.cell? ⟨b, off + i, none⟩ = some (.int .u8 (l0[i].toNat : Int)) := hd i _ (by simp [cb, hlt0])
      have hcell : wr.cell? ⟨b, off + i, none⟩ = some (.int .u8 (l0[i].toNat : Int)) := (hbr.cell (p := ⟨b, off + i, none⟩) hbb).trans hcw
      have hy8 := l0[i].toNat_lt
      clear hd
      generalize l0[i] = y at *
      have hlit := lit_rd (w := wr) (l := [y])
      have HM := hid hM
      clear hM
      go_wp2_with fail
      have hDl := hD.below (bx_alloc (Below.refl _ wr) (.cells ([y].map cb).toArray 5))
      refine (full_any _ (l := [y]) hlit.1 (by simp) (by simp [maxLen]) false).mono ?_
      rintro e w4 ⟨gf, rfl, hgf, hblkf, hb4⟩
      have hb4r : Below wr.heap.size wr w4 := bx_trans (bx_alloc (Below.refl _ _) _) hb4
      have hd4 := hD.below hb4r
      obtain ⟨hrf, hof⟩ := full_out hblkf false
      have hlf : (fullR [y] false).length = 256 := fullX_length _
      obtain ⟨hWE, hWD⟩ := hL.wE (i := (i : Int)) (by omega) (by omega) (fullX_length [y])
      have hws : w1.heap.size ≤ w4.heap.size := by obtain ⟨_, _, _, h⟩ := hd4; have := h.gB; have := h.blk.lt; omega
      have hlo := hL.loose
      go_wp2_with fail
      rw [← hlf]
      refine (Write_any w4 hd4 hws _ (by rw [hlf]; decide) (Kp.of_out hrf hof) (Nat.le_refl _) (by omega)).mono ?_
      rintro e w5 ⟨rfl, hd5, hf5⟩
      rw [show fullR [y] false = fullX [y] from rfl] at hd5 ⊢
      rw [hWE]
      rw [hWD] at hd5
      have hL1 := hL.push ((i : Int), fullX [y])
      have hM1 := match_first HM.out y
      have hblk5 := (hblk.below hb4r hblk.lt).dfr hf5 (by decide) (by decide)
      have hb5 : Below w.heap.size w w5 := (bx_trans hbr hb4r).trans (hf5.below.mono hB)
      have HM1 := hid hM1
      have HL1 := hid hL1
      clear hM1 hL1 hd4 hrf hof hblkf hlit hD hDl hb4 hb4r hblk hbr hcell hlo
      generalize ({ D with loose := D.loose ++ [((i : Int), fullX [y])] } : DS) = D5 at *
      obtain ⟨a, ha⟩ : ∃ a : Nat, a = 256 * i := ⟨_, rfl⟩
      have ham : 256 * (i : Int) = (a : Int) := by omega
      have haN : a + 256 ≤ N := by have := HN.out; omega
      have HA := hid ha
      clear ha hf5 hws
      go_wp2
      go_loopw [14] (fun j wq => ∃ k : Nat, k ≤ 256 ∧ j = .int .i64 k ∧ IsDisk wq w1.heap.size g D5 ∧ Blk wq gl 5 (wantA N (fillF f a k y)) ∧ Below w.heap.size w wq) (fun j _ => 256 - (intOf j).toNat)
      case atStart => exact ⟨0, by omega, rfl, hd5, by rw [fillF_zero]; exact hblk5, hb5⟩
      case round =>
        obtain ⟨k, hk, rfl, hdq, hblkq, hbq⟩ := hrel
        clear hd5 hblk5 hb5
        by_cases hltk : k < 256
        · have hc1 := (hbq.cell (p := ⟨b, off + i, none⟩) hbb).trans hcw
          have hput := setCell_put hblkq (i := a + k) (.int .u8 (y.toNat : Int))
          rw [wantA_fill (by omega)] at hput
          have hgz := hblkq.cell (a + k)
          rw [wantA_get (by omega)] at hgz
          have hfz := hblkq.frozen (a + k)
          have hdn := hdq.other hblkq hput (by decide) (by decide)
          have hbn := bx_setCell hbq (p := ⟨gl, a + k, none⟩) hgw (.int .u8 (y.toNat : Int))
          have hbkn := hput.blk
          clear hput hdq hblkq
          generalize hpk : a + k = p at *
          have hsum : (a : Int) + (k : Int) = (p : Int) := by omega
          have HPK := hid hpk
          have hpN : p < N := by omega
          clear hpk
          go_wp2
          go_roundw
          case rel => exact ⟨k + 1, by omega, by go_num, hdn, hbkn, hbn⟩
          case measure => simp [intOf]; omega
        · obtain rfl : k = 256 := by omega
          have ha := HA.out
          subst ha
          go_wp2
          go_roundw
          case rel => exact ⟨i + 1, _, _, by omega, by go_num, hdq, HL1.out, HM1.out, hblkq, hbq⟩
          case measure => simp [intOf]; omega
    · obtain rfl : i = n := by omega
      obtain ⟨hsE, hsW⟩ := hL.le.sync
      go_wp2_with fail
      refine (Sync_any wr hD).mono ?_
      rintro e w6 ⟨rfl, hd6, hf6⟩
      rw [hsE]
      rw [hsW] at hd6
      have hL6 : Lives (syncD D) i 0 := ⟨hL.n, hL.fails, hL.dead, rfl⟩
      have hM6 := match_sync (front := l2) hM
      have hblk6 := hblk.dfr hf6 (by decide) (by decide)
      have hb6 : Below w.heap.size w w6 := hbr.trans (hf6.below.mono hB)
      clear hD hf6 hM hblk hbr hL hsE hsW
      generalize syncD D = D6 at *
      generalize hni : i = n at *
      clear hni hlt hi
      go_wp2
      go_loopw [15] (fun j wr => ∃ (i : Nat) (D : DS) (f : Nat → UInt8), i ≤ l1.length ∧ j = .int .i64 i ∧ IsDisk wr w1.heap.size g D ∧ Lives D n i ∧ MatchF (crG D l2) n f ∧ Blk wr gl 5 (wantA N f) ∧ Below w.heap.size w wr) (fun j _ => l1.length - (intOf j).toNat)
      case atStart => exact ⟨0, _, _, by omega, rfl, hd6, hL6, hM6, hblk6, hb6⟩
      case round =>
        obtain ⟨i, D, f, hi, rfl, hD, hL, hM, hblk, hbr⟩ := hrel
        clear hd6 hL6 hM6 hblk6 hb6
        by_cases hlt : i < l1.length
        · obtain ⟨b, off, rfl, hbb, hd⟩ := hR1.out.at_ (k := i) (by simpa using hlt)
          have hcw : w.cell? ⟨b, off + i, none⟩ = some (.int .u8 (l1[i].toNat : Int)) := hd i _ (by simp [cb, hlt])
          have hcell : wr.cell? ⟨b, off + i, none⟩ = some (.int .u8 (l1[i].toNat : Int)) := (hbr.cell (p := ⟨b, off + i, none⟩) hbb).trans hcw
          have hx8 := l1[i].toNat_lt
          clear hd
          generalize l1[i] = x at *
          obtain ⟨z, hz⟩ : ∃ z : Nat, z = x.toNat % n := ⟨_, rfl⟩
          have hzm : ((x.toNat : Int)).tmod (n : Int) = (z : Int) := (Int.tmod_eq_emod_of_nonneg (by omega)).trans (by rw [hz]; rfl)
          have hzn : z < n := by rw [hz]; exact Nat.mod_lt _ hn1
          clear hz
          obtain ⟨y, hyi⟩ : ∃ y : UInt8, (y.toNat : Int) = (i : Int) := ⟨UInt8.ofNat i, by rw [u8_conv (by omega)]⟩
          have hwi : IntKind.u8.wrap (i : Int) = (i : Int) := wrap_u8s _ (by omega) (by omega)
          have hlit := lit_one (w := wr) hyi
          have HYI := hid hyi
          have HM := hid hM
          clear hM hyi
          go_wp2_with fail
          refine (full_any _ (l := [y]) hlit.1 (by simp) (by simp [maxLen]) false).mono ?_
          rintro e w4 ⟨gf, rfl, hgf, hblkf, hb4⟩
          have hb4r : Below wr.heap.size wr w4 := bx_trans (bx_alloc (Below.refl _ _) _) hb4
          have hd4 := hD.below hb4r
          obtain ⟨hrf, hof⟩ := full_out hblkf false
          have hlf : (fullR [y] false).length = 256 := fullX_length _
          obtain ⟨hWE, hWD⟩ := hL.wE (i := (z : Int)) (by omega) (by omega) (fullX_length [y])
          have hws : w1.heap.size ≤ w4.heap.size := by obtain ⟨_, _, _, h⟩ := hd4; have := h.gB; have := h.blk.lt; omega
          have hlo := hL.loose
          go_wp2_with fail
          rw [← hlf]
          refine (Write_any w4 hd4 hws _ (by rw [hlf]; decide) (Kp.of_out hrf hof) (Nat.le_refl _) (by omega)).mono ?_
          rintro e w5 ⟨rfl, hd5, hf5⟩
          rw [show fullR [y] false = fullX [y] from rfl] at hd5 ⊢
          rw [hWE]
          rw [hWD] at hd5
          have hL1 := hL.push ((z : Int), fullX [y])
          have hM1 := match_later HM.out hlo hzn y
          have hblk5 := (hblk.below hb4r hblk.lt).dfr hf5 (by decide) (by decide)
          have hb5 : Below w.heap.size w w5 := (bx_trans hbr hb4r).trans (hf5.below.mono hB)
          have HM1 := hid hM1
          have HL1 := hid hL1
          clear hM1 hL1 hd4 hrf hof hblkf hlit hD hb4 hb4r hblk hbr hcell hlo hzm
          generalize ({ D with loose := D.loose ++ [((z : Int), fullX [y])] } : DS) = D5 at *
          obtain ⟨a, ha⟩ : ∃ a : Nat, a = 256 * z := ⟨_, rfl⟩
          have ham : 256 * (z : Int) = (a : Int) := by omega
          have haN : a + 256 ≤ N := by have := HN.out; omega
          have HA := hid ha
          clear ha hf5 hws
          by_cases hfr : i < l2.length
          · obtain ⟨b2, o2, rfl, hbb2, hd2⟩ := hR2.out.at_ (k := i) (by simpa using hfr)
            have hcw2 : w.cell? ⟨b2, o2 + i, none⟩ = some (.int .u8 (l2[i].toNat : Int)) := hd2 i _ (by simp [cb, hfr])
            have hcell2 : w5.cell? ⟨b2, o2 + i, none⟩ = some (.int .u8 (l2[i].toNat : Int)) := (hb5.cell (p := ⟨b2, o2 + i, none⟩) hbb2).trans hcw2
            have hfn : frN l2 i = if l2[i].toNat = 255 then 256 else l2[i].toNat := by unfold frN; rw [dif_pos hfr]; rfl
            have hf8 := l2[i].toNat_lt
            clear hd2 hcw2
            generalize l2[i].toNat = fn at *
            by_cases h255 : fn = 255
            · rw [if_pos h255] at hfn
              have HFN := hid hfn
              subst h255
              clear hfn
              go_wp2
              go_loopw [18] (fun j wq => ∃ k : Nat, k ≤ 256 ∧ j = .int .i64 k ∧ IsDisk wq w1.heap.size g D5 ∧ Blk wq gl 5 (wantA N (fillF f a k y)) ∧ Below w.heap.size w wq) (fun j _ => 256 - (intOf j).toNat)
              case atStart => exact ⟨0, by omega, rfl, hd5, by rw [fillF_zero]; exact hblk5, hb5⟩
              case round =>
                obtain ⟨k, hk, rfl, hdq, hblkq, hbq⟩ := hrel
                clear hd5 hblk5 hb5 hcell2
                by_cases hltk : k < 256
                · have hput := setCell_put hblkq (i := a + k) (.int .u8 (i : Int))
                  rw [← HYI.out, wantA_fill (by omega), HYI.out] at hput
                  have hgz := hblkq.cell (a + k)
                  rw [wantA_get (by omega)] at hgz
                  have hfz := hblkq.frozen (a + k)
                  have hdn := hdq.other hblkq hput (by decide) (by decide)
                  have hbn := bx_setCell hbq (p := ⟨gl, a + k, none⟩) hgw (.int .u8 (i : Int))
                  have hbkn := hput.blk
                  clear hput hdq hblkq
                  generalize hpk : a + k = p at *
                  have hsum : (a : Int) + (k : Int) = (p : Int) := by omega
                  have HPK := hid hpk
                  have hpN : p < N := by omega
                  clear hpk
                  go_wp2
                  go_roundw
                  case rel => exact ⟨k + 1, by omega, by go_num, hdn, hbkn, hbn⟩
                  case measure => simp [intOf]; omega
                · obtain rfl : k = 256 := by omega
                  have ha := HA.out
                  subst ha
                  have hMF := HM1.out
                  rw [HFN.out] at hMF
                  have HMF := hid hMF
                  clear hMF
                  go_wp2
                  go_roundw
                  case rel => exact ⟨i + 1, _, _, by omega, by go_num, hdq, HL1.out, HMF.out, hblkq, hbq⟩
                  case measure => simp [intOf]; omega
            · rw [if_neg h255] at hfn
              have HFN := hid hfn
              have e255 : ((fn : Int) == 255) = false := by simp; omega
              clear hfn h255
              go_wp2
              go_loopw [18] (fun j wq => ∃ k : Nat, k ≤ fn ∧ j = .int .i64 k ∧ IsDisk wq w1.heap.size g D5 ∧ Blk wq gl 5 (wantA N (fillF f a k y)) ∧ Below w.heap.size w wq) (fun j _ => fn - (intOf j).toNat)
              case atStart => exact ⟨0, by omega, rfl, hd5, by rw [fillF_zero]; exact hblk5, hb5⟩
              case round =>
                obtain ⟨k, hk, rfl, hdq, hblkq, hbq⟩ := hrel
                clear hd5 hblk5 hb5 hcell2
                by_cases hltk : k < fn
                · have hput := setCell_put hblkq (i := a + k) (.int .u8 (i : Int))
                  rw [← HYI.out, wantA_fill (by omega), HYI.out] at hput
                  have hgz := hblkq.cell (a + k)
                  rw [wantA_get (by omega)] at hgz
                  have hfz := hblkq.frozen (a + k)
                  have hdn := hdq.other hblkq hput (by decide) (by decide)
                  have hbn := bx_setCell hbq (p := ⟨gl, a + k, none⟩) hgw (.int .u8 (i : Int))
                  have hbkn := hput.blk
                  clear hput hdq hblkq
                  generalize hpk : a + k = p at *
                  have hsum : (a : Int) + (k : Int) = (p : Int) := by omega
                  have HPK := hid hpk
                  have hpN : p < N := by omega
                  clear hpk
                  go_wp2
                  go_roundw
                  case rel => exact ⟨k + 1, by omega, by go_num, hdn, hbkn, hbn⟩
                  case measure => simp [intOf]; omega
                · obtain rfl : k = fn := by omega
                  have ha := HA.out
                  subst ha
                  have hMF := HM1.out
                  rw [HFN.out] at hMF
                  have HMF := hid hMF
                  clear hMF
                  go_wp2
                  go_roundw
                  case rel => exact ⟨i + 1, _, _, by omega, by go_num, hdq, HL1.out, HMF.out, hblkq, hbq⟩
                  case measure => simp [intOf]; omega
          · have HFN : Hid (frN l2 i = 0) := by unfold frN; rw [dif_neg hfr]; exact hid rfl
            go_wp2
            go_loopw [18] (fun j wq => ∃ k : Nat, k ≤ 0 ∧ j = .int .i64 k ∧ IsDisk wq w1.heap.size g D5 ∧ Blk wq gl 5 (wantA N (fillF f a k y)) ∧ Below w.heap.size w wq) (fun j _ => 0 - (intOf j).toNat)
            case atStart => exact ⟨0, by omega, rfl, hd5, by rw [fillF_zero]; exact hblk5, hb5⟩
            case round =>
              obtain ⟨k, hk, rfl, hdq, hblkq, hbq⟩ := hrel
              clear hd5 hblk5 hb5
              obtain rfl : k = 0 := by omega
              have ha := HA.out
              subst ha
              have hMF := HM1.out
              rw [HFN.out] at hMF
              have HMF := hid hMF
              clear hMF
              go_wp2
              go_roundw
              case rel => exact ⟨i + 1, _, _, by omega, by go_num, hdq, HL1.out, HMF.out, hblkq, hbq⟩
              case measure => simp [intOf]; omega
        · have hL7 := crash_lives hL l2
          have hM7 := match_crash hM
          go_wp2_with fail
          refine (Crash_any wr hD (front := l2) (Kp.of_below (hR2.out.below hbr) hB) hbr.size hmx2).mono ?_
          rintro e w7 ⟨rfl, hd7, hf7⟩
          have hblk7 := hblk.dfr hf7 (by decide) (by decide)
          have hb7 : Below w.heap.size w w7 := hbr.trans (hf7.below.mono hB)
          have HM7 := hid hM7
          clear hD hf7 hM hM7 hblk hbr hL
          generalize crashD D l2 = E at *
          have hs7 : w1.heap.size ≤ w7.heap.size := by obtain ⟨_, _, _, h⟩ := hd7; have := h.gB; have := h.blk.lt; omega
          go_wp2
          go_loopw [19] (fun j wq => ∃ q : Nat, q ≤ n ∧ j = .int .i64 q ∧ Below w7.heap.size w7 wq) (fun j _ => n - (intOf j).toNat)
          case atStart => exact ⟨0, by omega, rfl, Below.refl _ _⟩
          case round =>
            obtain ⟨q, hq, rfl, hbq⟩ := hrel
            have hdq := hd7.below hbq
            by_cases hltq : q < n
            · obtain ⟨hrE, hrV⟩ := hL7.read (i := (q : Int)) (by omega) (by omega)
              go_wp2_with fail
              refine (Read_any _ hdq (Nat.le_trans hs7 hbq.size) (q : Int)).mono ?_
              rintro e w9 ⟨v, rfl, hv, hb9⟩
              obtain ⟨Av, cv, rfl, _, hrv, _⟩ := hv
              have hMq : readAt E (q : Int) = blkF f q := HM7.out q hltq
              rw [hrV, hMq] at hrv ⊢
              rw [hrE]
              obtain ⟨a, ha⟩ : ∃ a : Nat, a = 256 * q := ⟨_, rfl⟩
              have ham : 256 * (q : Int) = (a : Int) := by omega
              have haN : a + 256 ≤ N := by have := HN.out; omega
              have hb9a : Below w7.heap.size w7 w9 := bx_trans hbq hb9
              have hrw := blkF_rd (hblk7.below hb9a hblk7.lt) ha haN
              rw [blkF_length]
              obtain ⟨b', hb'⟩ : ∃ b' : Nat, b' = a + 256 := ⟨_, rfl⟩
              have hbm : (a : Int) + 256 = (b' : Int) := by omega
              have hbs : b' - a = 256 := by omega
              have hbN : b' ≤ N := by omega
              have hN8 : N ≤ 2048 := by have := HN.out; omega
              have hlen := blkF_length f q
              have HLEN := hid hlen
              have HRV := hid hrv
              have HRW := hid hrw
              clear hrv hrw ha hb' hdq hlen
              generalize blkF f q = X at *
              go_wp2_with fail
              refine wp_flow (by kernel_rfl) [0, 1, 3, 7, 15, 7, 7, 71, 7, 263, 775, 2023, 4071, 8191, 16383] 14 [false, false, false, false, false, false, false, false, false, false, false, false, false, false, false, false, false, false, false, false, false, false, false, false, false, false, false, false, false, false, false, false, false, false, false, false, false, false, false, false, false, false, false, false, false, false, false, false, false, false, false, false, false, false, false, false, false, false, false, false, false, false, false, false, false, false, false, false, false, false, false, false, false, false, false, false, false, false, false, false, false, false, false, false, false, false, false, false, false, false, false, false, false, false, false, false, false, false, false, false, false, false, false, false, false, false, false, false, false, false, false, false, false, false, false, false, false, false, false, false, false, false, false, false, false, false, false, false, false, false, false, false, false, false, false, false, false, false, false, false, false, false, true, true, true, true, true, true, true, true, true, true, true, true, true, true, false] (by kernel_rfl) (by decide) (by kernel_rfl) [FP.eq (.int .i64 0), FP.eq (.bool false), FP.eq (.bool false), FP.eq (.slice Av 256 cv), FP.eq (.string ⟨X.toArray⟩), FP.eq (.slice (some ⟨gl, 0, none⟩) N N), FP.eq (.int .i64 q), FP.eq (.int .i64 (a : Int)), FP.eq (.int .i64 q), FP.eq (.int .i64 (a : Int)), FP.eq (.int .i64 (b' : Int)), FP.eq (.slice (some ⟨gl, a, none⟩) 256 (N - a)), FP.eq (.string ⟨X.toArray⟩), FP.eq (.bool false)] ?_ ?_
              · refine allFrom_cons ?_ ?_
                · intro a_ w_ hk_
                  have h21 : a_.eval (.tmp 21) = .int .i64 0 := hk_.old 21 (by kernel_rfl)
                  have hx_ := hk_.ext
                  clear hk_
                  refine flow_plain rfl ?_
                  exact gives_move rfl ⟨Below.refl _ _, h21⟩
                refine allFrom_cons ?_ ?_
                · intro a_ w_ hk_
                  have h142 : a_.eval (.tmp 142) = (.int .i64 0) := hk_.got 0 142 _ (by kernel_rfl) rfl rfl
                  have hx_ := hk_.ext
                  clear hk_
                  refine flow_plain rfl ?_
                  unfold gives
                  have hc_ : ∀ v, a_.eval (.const v) = v := fun _ => rfl
                  have hn_ : ∀ f, a_.eval (.func f) = .func (.func f) #[] #[] := fun _ => rfl
                  generalize a_.eval = ρ_ at *
                  go_simp
                  exact ⟨Below.refl _ _, rfl⟩
                refine allFrom_cons ?_ ?_
                · intro a_ w_ hk_
                  have h143 : a_.eval (.tmp 143) = (.bool false) := hk_.got 1 143 _ (by kernel_rfl) rfl rfl
                  have hx_ := hk_.ext
                  clear hk_
                  refine flow_plain rfl ?_
                  exact gives_move rfl ⟨Below.refl _ _, h143⟩
                refine allFrom_cons ?_ ?_
                · intro a_ w_ hk_
                  have h20 : a_.eval (.tmp 20) = .slice Av 256 cv := hk_.old 20 (by kernel_rfl)
                  have hg_ : a_.eval (.tmp 144) = .bool false := hk_.got 2 144 _ (by kernel_rfl) rfl rfl
                  have hy_ := hk_.want 2 _ 144 false rfl rfl hg_
                  have hx_ := hk_.ext
                  clear hk_
                  refine flow_want rfl hy_ ?_
                  exact gives_move rfl ⟨Below.refl _ _, h20⟩
                refine allFrom_cons ?_ ?_
                · intro a_ w_ hk_
                  have h145 : a_.eval (.tmp 145) = (.slice Av 256 cv) := hk_.got 3 145 _ (by kernel_rfl) rfl rfl
                  have hg_ : a_.eval (.tmp 144) = .bool false := hk_.got 2 144 _ (by kernel_rfl) rfl rfl
                  have hy_ := hk_.want 2 _ 144 false rfl rfl hg_
                  have hx_ := hk_.ext
                  clear hk_
                  refine flow_want rfl hy_ ?_
                  unfold gives
                  have hc_ : ∀ v, a_.eval (.const v) = v := fun _ => rfl
                  have hn_ : ∀ f, a_.eval (.func f) = .func (.func f) #[] #[] := fun _ => rfl
                  clear hy_ hg_
                  have hcv := conv_str (P := Try.prog) (src := 22) (dst := 9) Try.underlying22 Try.underlying5 Try.underlying9 cv (HRV.out.below hx_)
                  rw [HLEN.out] at hcv
                  generalize a_.eval = ρ_ at *
                  go_simp
                  exact ⟨Below.refl _ _, rfl⟩
                refine allFrom_cons ?_ ?_
                · intro a_ w_ hk_
                  have h11 : a_.eval (.tmp 11) = .slice (some ⟨gl, 0, none⟩) N N := hk_.old 11 (by kernel_rfl)
                  have hg_ : a_.eval (.tmp 144) = .bool false := hk_.got 2 144 _ (by kernel_rfl) rfl rfl
                  have hy_ := hk_.want 2 _ 144 false rfl rfl hg_
                  have hx_ := hk_.ext
                  clear hk_
                  refine flow_want rfl hy_ ?_
                  exact gives_move rfl ⟨Below.refl _ _, h11⟩
                refine allFrom_cons ?_ ?_
                · intro a_ w_ hk_
                  have h19 : a_.eval (.tmp 19) = .int .i64 q := hk_.old 19 (by kernel_rfl)
                  have hg_ : a_.eval (.tmp 144) = .bool false := hk_.got 2 144 _ (by kernel_rfl) rfl rfl
                  have hy_ := hk_.want 2 _ 144 false rfl rfl hg_
                  have hx_ := hk_.ext
                  clear hk_
                  refine flow_want rfl hy_ ?_
                  exact gives_move rfl ⟨Below.refl _ _, h19⟩
                refine allFrom_cons ?_ ?_
                · intro a_ w_ hk_
                  have h148 : a_.eval (.tmp 148) = (.int .i64 q) := hk_.got 6 148 _ (by kernel_rfl) rfl rfl
                  have hg_ : a_.eval (.tmp 144) = .bool false := hk_.got 2 144 _ (by kernel_rfl) rfl rfl
                  have hy_ := hk_.want 2 _ 144 false rfl rfl hg_
                  have hx_ := hk_.ext
                  clear hk_
                  refine flow_want rfl hy_ ?_
                  unfold gives
                  have hc_ : ∀ v, a_.eval (.const v) = v := fun _ => rfl
                  have hn_ : ∀ f, a_.eval (.func f) = .func (.func f) #[] #[] := fun _ => rfl
                  clear hy_ hg_
                  generalize a_.eval = ρ_ at *
                  go_simp
                  exact ⟨Below.refl _ _, congrArg (Value.int _) (wrap_i64s _ (by omega) (by omega))⟩
                refine allFrom_cons ?_ ?_
                · intro a_ w_ hk_
                  have h19 : a_.eval (.tmp 19) = .int .i64 q := hk_.old 19 (by kernel_rfl)
                  have hg_ : a_.eval (.tmp 144) = .bool false := hk_.got 2 144 _ (by kernel_rfl) rfl rfl
                  have hy_ := hk_.want 2 _ 144 false rfl rfl hg_
                  have hx_ := hk_.ext
                  clear hk_
                  refine flow_want rfl hy_ ?_
                  exact gives_move rfl ⟨Below.refl _ _, h19⟩
                refine allFrom_cons ?_ ?_
                · intro a_ w_ hk_
                  have h150 : a_.eval (.tmp 150) = (.int .i64 q) := hk_.got 8 150 _ (by kernel_rfl) rfl rfl
                  have hg_ : a_.eval (.tmp 144) = .bool false := hk_.got 2 144 _ (by kernel_rfl) rfl rfl
                  have hy_ := hk_.want 2 _ 144 false rfl rfl hg_
                  have hx_ := hk_.ext
                  clear hk_
                  refine flow_want rfl hy_ ?_
                  unfold gives
                  have hc_ : ∀ v, a_.eval (.const v) = v := fun _ => rfl
                  have hn_ : ∀ f, a_.eval (.func f) = .func (.func f) #[] #[] := fun _ => rfl
                  clear hy_ hg_
                  generalize a_.eval = ρ_ at *
                  go_simp
                  exact ⟨Below.refl _ _, congrArg (Value.int _) (wrap_i64s _ (by omega) (by omega))⟩
                refine allFrom_cons ?_ ?_
                · intro a_ w_ hk_
                  have h151 : a_.eval (.tmp 151) = (.int .i64 (a : Int)) := hk_.got 9 151 _ (by kernel_rfl) rfl rfl
                  have hg_ : a_.eval (.tmp 144) = .bool false := hk_.got 2 144 _ (by kernel_rfl) rfl rfl
                  have hy_ := hk_.want 2 _ 144 false rfl rfl hg_
                  have hx_ := hk_.ext
                  clear hk_
                  refine flow_want rfl hy_ ?_
                  unfold gives
                  have hc_ : ∀ v, a_.eval (.const v) = v := fun _ => rfl
                  have hn_ : ∀ f, a_.eval (.func f) = .func (.func f) #[] #[] := fun _ => rfl
                  clear hy_ hg_
                  generalize a_.eval = ρ_ at *
                  go_simp
                  exact ⟨Below.refl _ _, congrArg (Value.int _) (wrap_i64s _ (by omega) (by omega))⟩
                refine allFrom_cons ?_ ?_
                · intro a_ w_ hk_
                  have h147 : a_.eval (.tmp 147) = (.slice (some ⟨gl, 0, none⟩) N N) := hk_.got 5 147 _ (by kernel_rfl) rfl rfl
                  have h149 : a_.eval (.tmp 149) = (.int .i64 (a : Int)) := hk_.got 7 149 _ (by kernel_rfl) rfl rfl
                  have h152 : a_.eval (.tmp 152) = (.int .i64 (b' : Int)) := hk_.got 10 152 _ (by kernel_rfl) rfl rfl
                  have hg_ : a_.eval (.tmp 144) = .bool false := hk_.got 2 144 _ (by kernel_rfl) rfl rfl
                  have hy_ := hk_.want 2 _ 144 false rfl rfl hg_
                  have hx_ := hk_.ext
                  clear hk_
                  refine flow_want rfl hy_ ?_
                  unfold gives
                  have hc_ : ∀ v, a_.eval (.const v) = v := fun _ => rfl
                  have hn_ : ∀ f, a_.eval (.func f) = .func (.func f) #[] #[] := fun _ => rfl
                  clear hy_ hg_
                  have hab : a ≤ b' := by omega
                  have hNa : ¬ N = a := by omega
                  generalize a_.eval = ρ_ at *
                  go_simp
                  exact ⟨Below.refl _ _, rfl⟩
                refine allFrom_cons ?_ ?_
                · intro a_ w_ hk_
                  have h153 : a_.eval (.tmp 153) = (.slice (some ⟨gl, a, none⟩) 256 (N - a)) := hk_.got 11 153 _ (by kernel_rfl) rfl rfl
                  have hg_ : a_.eval (.tmp 144) = .bool false := hk_.got 2 144 _ (by kernel_rfl) rfl rfl
                  have hy_ := hk_.want 2 _ 144 false rfl rfl hg_
                  have hx_ := hk_.ext
                  clear hk_
                  refine flow_want rfl hy_ ?_
                  unfold gives
                  have hc_ : ∀ v, a_.eval (.const v) = v := fun _ => rfl
                  have hn_ : ∀ f, a_.eval (.func f) = .func (.func f) #[] #[] := fun _ => rfl
                  clear hy_ hg_
                  have hcv := conv_str (P := Try.prog) (src := 22) (dst := 9) Try.underlying22 Try.underlying5 Try.underlying9 (N - a) (HRW.out.below hx_)
                  rw [HLEN.out] at hcv
                  generalize a_.eval = ρ_ at *
                  go_simp
                  exact ⟨Below.refl _ _, rfl⟩
                refine allFrom_cons ?_ ?_
                · intro a_ w_ hk_
                  have h146 : a_.eval (.tmp 146) = (.string ⟨X.toArray⟩) := hk_.got 4 146 _ (by kernel_rfl) rfl rfl
                  have h154 : a_.eval (.tmp 154) = (.string ⟨X.toArray⟩) := hk_.got 12 154 _ (by kernel_rfl) rfl rfl
                  have hg_ : a_.eval (.tmp 144) = .bool false := hk_.got 2 144 _ (by kernel_rfl) rfl rfl
                  have hy_ := hk_.want 2 _ 144 false rfl rfl hg_
                  have hx_ := hk_.ext
                  clear hk_
                  refine flow_want rfl hy_ ?_
                  unfold gives
                  have hc_ : ∀ v, a_.eval (.const v) = v := fun _ => rfl
                  have hn_ : ∀ f, a_.eval (.func f) = .func (.func f) #[] #[] := fun _ => rfl
                  clear hy_ hg_
                  generalize a_.eval = ρ_ at *
                  go_simp
                  exact ⟨Below.refl _ _, rfl⟩
                exact allFrom_nil
              intro f_ w_ hx_ hf_
              have h142 : f_ 142 = (.int .i64 0) := hf_ 0 142 _ (by decide) rfl rfl
              have h143 : f_ 143 = (.bool false) := hf_ 1 143 _ (by decide) rfl rfl
              have h144 : f_ 144 = (.bool false) := hf_ 2 144 _ (by decide) rfl rfl
              have h145 : f_ 145 = (.slice Av 256 cv) := hf_ 3 145 _ (by decide) rfl rfl
              have h146 : f_ 146 = (.string ⟨X.toArray⟩) := hf_ 4 146 _ (by decide) rfl rfl
              have h147 : f_ 147 = (.slice (some ⟨gl, 0, none⟩) N N) := hf_ 5 147 _ (by decide) rfl rfl
              have h148 : f_ 148 = (.int .i64 q) := hf_ 6 148 _ (by decide) rfl rfl
              have h149 : f_ 149 = (.int .i64 (a : Int)) := hf_ 7 149 _ (by decide) rfl rfl
              have h150 : f_ 150 = (.int .i64 q) := hf_ 8 150 _ (by decide) rfl rfl
              have h151 : f_ 151 = (.int .i64 (a : Int)) := hf_ 9 151 _ (by decide) rfl rfl
              have h152 : f_ 152 = (.int .i64 (b' : Int)) := hf_ 10 152 _ (by decide) rfl rfl
              have h153 : f_ 153 = (.slice (some ⟨gl, a, none⟩) 256 (N - a)) := hf_ 11 153 _ (by decide) rfl rfl
              have h154 : f_ 154 = (.string ⟨X.toArray⟩) := hf_ 12 154 _ (by decide) rfl rfl
              have h155 : f_ 155 = (.bool false) := hf_ 13 155 _ (by decide) rfl rfl
              simp only [mix, List.drop_succ_cons, List.drop_zero, h142, h143, h144, h145, h146, h147, h148, h149, h150, h151, h152, h153, h154, h155]
              clear h142 h143 h144 h145 h146 h147 h148 h149 h150 h151 h152 h153 h154 h155
              clear hf_
              go_wp2
              go_roundw
              case rel => exact ⟨q + 1, by omega, by go_num, bx_trans hb9a hx_⟩
              case measure => simp [intOf]; omega
            · have hfin : Below w.heap.size w wr := hb7.trans (hbq.mono hb7.size)
              have hlo7 := hL7.loose
              have hde7 := hL7.dead
              go_wp2_with fail
              refine (Loose_any _ hdq).mono ?_
              rintro e w9 ⟨rfl, rfl⟩
              rw [hlo7]
              go_wp2_with fail
              refine (Dead_any _ hdq).mono ?_
              rintro e w9 ⟨rfl, rfl⟩
              rw [hde7]
              go_wp2
              go_ret
              exact ⟨ret_val (by simp), hfin⟩
end Go.Proofs.Ytnbjoebdbbhbkaa
