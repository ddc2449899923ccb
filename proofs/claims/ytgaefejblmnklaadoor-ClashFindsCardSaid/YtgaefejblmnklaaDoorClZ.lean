
/- ClashFinds: its walk. -/
import Derived.Test.YtgaefejblmnklaaDoorClY
namespace Go.Proofs.YtgaefejblmnklaaDoor
open Go.RowKit
set_option linter.unusedVariables false
set_option maxRecDepth 100000 in
set_option maxHeartbeats 16000000 in
theorem ClashFinds_walk (w : World) (hL : Laid w) (s0 : Int) (hs0 : (Lit.int .u8 s0).wf = true) (i0 : Int) (hi0 : (Lit.int .u8 i0).wf = true)
    (Ap : Option Addr) (cp : Nat) (P : List (List UInt8)) (hcp : P.length ≤ cp) (hmp : cp ≤ maxLen) (h32 : ∀ x ∈ P, x.length = 32) (hrp : Rd w w.heap.size Ap (P.flatten.map cb))
    (f0 : Int) (hf0 : (Lit.int .u8 f0).wf = true) (t0 : Int) (ht0 : (Lit.int .u8 t0).wf = true) :
    Calls Tryd.prog 4 #[.int .u8 s0, .int .u8 i0, .slice Ap P.length cp, .int .u8 f0, .int .u8 t0] w fun e w' => e = .returned (.bool true) ∧ Below w.heap.size w w' := by
  have hbs := bounds_u8 hs0
  have hbi := bounds_u8 hi0
  have hbf := bounds_u8 hf0
  have hbt := bounds_u8 ht0
  unfold maxLen at hmp
  obtain ⟨fr, hfr⟩ : ∃ fr : UInt8, f0 = (fr.toNat : Int) := ⟨UInt8.ofNat f0.toNat, by rw [UInt8.toNat_ofNat']; omega⟩
  subst hfr
  obtain ⟨pl, hpl⟩ : ∃ pl, pl = P.length := ⟨_, rfl⟩
  rw [← hpl] at hcp ⊢
  obtain ⟨q, hq⟩ : ∃ q : Nat, s0 % 20 = (q : Int) := ⟨(s0 % 20).toNat, by omega⟩
  have hq20 : q < 20 := by omega
  obtain ⟨n, hn⟩ : ∃ n : Nat, (q : Int) + 1 = (n : Int) := ⟨q + 1, by omega⟩
  have hn20 : n ≤ 20 := by omega
  have hnp : (0 : Int) < (n : Int) := by omega
  have hn0 : ¬ (n : Int) = 0 := by omega
  obtain ⟨k, hk⟩ : ∃ k : Nat, i0 % (n : Int) = (k : Int) := ⟨(i0 % (n : Int)).toNat, by have := Int.emod_nonneg i0 (b := (n : Int)) (by omega); omega⟩
  have hnn : n < 18446744073709551616 := by omega
  have HL := hid hL
  have HRP := hid hrp
  have H32 := hid h32
  have HPL := hid hpl
  clear hL hrp h32 hpl hs0 hi0 hf0 ht0 hbf
  go_enter Tryd.func4, Tryd.ntmps4
  rw [hold 17, hold 28]
  go_wp2_with fail
  refine (clAwake w HL.out).mono ?_
  rintro e w1 ⟨rfl, hb1⟩
  by_cases g1 : 20 < pl
  · go_wp2_with fail
    go_ret
    exact ⟨rfl, hb1⟩
  have HPR := hid (pair_any w1 (HL.out.below hb1) fr)
  go_wp2_with fail
  refine HPR.out.mono ?_
  rintro e w2 ⟨hb2, k', i', va, vb, hki, hi3, _, hkey, hra, hrb, rfl⟩
  have hnar := key_hash hkey
  have hab : entN fr k' ≠ entN fr i' := by
    intro h
    have := entN_inj (by omega) hi3 h
    omega
  have hal : (entN fr k').length = 3 := rfl
  have hbl : (entN fr i').length = 3 := rfl
  generalize entN fr k' = a at *
  generalize entN fr i' = b at *
  obtain ⟨Aa, ca, rfl, hca, hra⟩ := hra
  obtain ⟨Ab, cc, rfl, hcb, hrb⟩ := hrb
  have hb02 := bx_trans hb1 hb2
  have HRA := hid hra
  have HRB := hid hrb
  have HAL := hid hal
  have HBL := hid hbl
  have HNAR := hid hnar
  have HAB := hid hab
  have hpl20 : pl ≤ 20 := by omega
  have hplc : (pl : Int) ≤ 20 := by omega
  clear HPR hkey hra hrb hal hbl hnar hab hki hi3 hb1 hb2 g1
  go_wp2_with fail
  go_loopw [17, 18, 19, 20, 21, 22, 23, 24, 25, 26, 27] (fun v17 _ _ _ _ _ _ _ _ _ _ wr => ∃ j : Nat, j ≤ pl + 1 ∧ v17 = .int .i64 (j : Int) ∧ Below w2.heap.size w2 wr) (fun v17 _ _ _ _ _ _ _ _ _ _ _ => pl + 1 - (intOf v17).toNat)
  case atStart => exact ⟨0, by omega, rfl, Below.refl _ _⟩
  case round =>
    obtain ⟨j, hj, rfl, hbr⟩ := hrel
    rename World => wr
    by_cases hle : j ≤ pl
    · have hbwr := bx_trans hb02 hbr
      have hjc : j ≤ cp := by omega
      have hjci : (j : Int) ≤ (cp : Int) := by omega
      have hj0 : (0 : Int) ≤ (j : Int) := by omega
      have hjpi : (j : Int) ≤ (pl : Int) := by omega
      obtain ⟨T, hT⟩ : ∃ T, T = P.take j := ⟨_, rfl⟩
      have hTl : T.length = j := by rw [hT, List.length_take, ← HPL.out, Nat.min_eq_left hle]
      have HTL := hid hTl
      have HT32 := hid (show ∀ x ∈ T, x.length = 32 from fun x hx => H32.out x (by rw [hT] at hx; exact List.mem_of_mem_take hx))
      have HRT : Hid (Rd w w.heap.size Ap (T.flatten.map cb)) := hid (by rw [hT]; exact rd_takeH HRP.out H32.out j)
      have HMD := hid (Made_any wr (HL.out.below hbwr) 1 (size := n) (i := k) hnn (ce := ca) ((HRA.out.below hbr).more hbr.size) hca (by rw [HAL.out]; decide) (c := cp) HTL.out HT32.out ((HRT.out.below hbwr).more hbwr.size) (by omega))
      have hHl := rowsH_len 1 n k a T
      have HRE : Hid (rowsE n k j = rowsE n k T.length) := hid (by rw [HTL.out])
      clear hT hTl
      obtain ⟨E, hE⟩ : ∃ E, E = rowsE n k j := ⟨_, rfl⟩
      rw [← hE] at HMD
      have HEE := hid hE
      clear hE
      generalize rowsH 1 n k a T = H at *
      go_wp2_with fail
      refine HMD.out.mono ?_
      rintro e w3 ⟨rfl, hb3⟩
      clear HMD
      by_cases hE0 : E = 0
      · have HE0 : Hid (rowsE n k T.length = 0) := hid (by rw [← HRE.out, ← HEE.out]; exact hE0)
        subst hE0
        go_wp2_with (first
          | ((with_reducible refine wpAtC ?_); refine wpList_alloc (w := w3) rfl _ rfl zeroH ?_; intro g18 w4 hg18 hg18' hz18 hb4; simp only [Act.put, List.setIfInBounds_toArray, List.set_cons_succ, List.set_cons_zero])
          | ((with_reducible refine wpAtC ?_); refine wpList_store_agg rfl _ _ _ rfl _ _ rfl (H.map cb).toArray rfl (aggHS hHl) hz18 (szH hHl) (one_cbA _) ?_; intro w5 hp5; simp only [Act.put]))
        have hb35 := bx_put hb4 hp5 hg18
        have hb25 := hbr.trans ((bx_trans hb3 hb35).mono hbr.size)
        clear hb4 hz18 hp5 hb35 hb3 hbr hbwr
        have HPA := hid (fun (W : World) (hb : Below w2.heap.size w2 W) => (Paths_any W (HL.out.below (bx_trans hb02 hb)) 1 (size := n) (i := k) hnn (ca := ca) ((HRA.out.below hb).more hb.size) hca (by rw [HAL.out]; decide) (cc := cc) ((HRB.out.below hb).more hb.size) hcb (by rw [HBL.out]; decide) (cp := cp) (p := T.length) (P := T) rfl HT32.out ((HRT.out.below (bx_trans hb02 hb)).more (bx_trans hb02 hb).size) (by rw [HTL.out]; omega) (cq := cp) (q := T.length) (Q := T) rfl HT32.out ((HRT.out.below (bx_trans hb02 hb)).more (bx_trans hb02 hb).size) (by rw [HTL.out]; omega)).mono fun e w' h => paths_same HE0.out HAB.out HNAR.out h)
        have HPB := hid (fun (W : World) (hb : Below w2.heap.size w2 W) => (Paths_any W (HL.out.below (bx_trans hb02 hb)) 1 (size := n) (i := k) hnn (ca := ca) ((HRA.out.below hb).more hb.size) hca (by rw [HAL.out]; decide) (cc := ca) ((HRA.out.below hb).more hb.size) hca (by rw [HAL.out]; decide) (cp := cp) (p := T.length) (P := T) rfl HT32.out ((HRT.out.below (bx_trans hb02 hb)).more (bx_trans hb02 hb).size) (by rw [HTL.out]; omega) (cq := cp) (q := T.length) (Q := T) rfl HT32.out ((HRT.out.below (bx_trans hb02 hb)).more (bx_trans hb02 hb).size) (by rw [HTL.out]; omega)).mono fun e w' h => paths_self h)
        have HPC := hid (fun (W : World) (hb : Below w2.heap.size w2 W) (O : List (List UInt8)) (hO : O.length = j) (hO32 : ∀ x ∈ O, x.length = 32) (AO : Option Addr) (cO : Nat) (hrO : Rd W W.heap.size AO (O.flatten.map cb)) => (Paths_any W (HL.out.below (bx_trans hb02 hb)) 1 (size := n) (i := k) hnn (ca := ca) ((HRA.out.below hb).more hb.size) hca (by rw [HAL.out]; decide) (cc := cc) ((HRB.out.below hb).more hb.size) hcb (by rw [HBL.out]; decide) (cp := cp) (p := T.length) (P := T) rfl HT32.out ((HRT.out.below (bx_trans hb02 hb)).more (bx_trans hb02 hb).size) (by rw [HTL.out]; omega) (cq := cO) (q := O.length) (Q := O) rfl hO32 hrO (by omega)).mono fun e w' h => paths_at (by rw [HAL.out]; decide) (by rw [HBL.out]; decide) HT32.out hO32 h)
        rw [HTL.out] at HPA HPB
        have HB25 := hid hb25
        refine wp_flowK (by kernel_rfl) [0, 0, 0, 0, 0, 0, 48, 0, 0, 384, 1023, 2047, 4095, 4095, 0, 24575, 65535] 16 [false, false, false, false, false, false, false, false, false, false, false, false, false, false, false, false, false, false, false, false, true, false, false, false, false, false, false, false, false, false, false, false, false, false, false, false, false, false, false, false, false, false, false, false, false, false, false, false, false, false, false, false, false, false, false, false, false, false, false, false, false, false, false, false, false, false, false, false, true, true, true, true, true, true, true, true, true, true, true, true, true, true] (by kernel_rfl) (by decide) (by kernel_rfl) [KP.eq (.int .u64 (n : Int)), KP.eq (.int .u64 (k : Int)), KP.eq (.slice Aa a.length ca), KP.eq (.slice Ab b.length cc), KP.eq (.slice Ap pl cp), KP.eq (.int .i64 (j : Int)), KP.eq (.slice Ap j cp), KP.eq (.slice Ap pl cp), KP.eq (.int .i64 (j : Int)), KP.eq (.slice Ap j cp), KP.shown true, KP.shown true, KP.any, KP.eq (.bool true), KP.any, KP.any] [10, 11, 12, 14, 15] (KCo w5 (0 :: a) (0 :: b) true) ?_ ?_ ?_
        · simp only [List.map_cons, List.map_nil]
          exact KCo.start
        · refine allFrom_cons ?_ ?_
          · refine stepK_by (by decide) ?_
            intro f_ a_ w_ hM_ hk_
            have h12 : a_.eval (.tmp 12) = .int .u64 (n : Int) := hk_.old 12 (by kernel_rfl)
            have k10 := hk_.later 10 _ (by kernel_rfl) rfl
            have k11 := hk_.later 11 _ (by kernel_rfl) rfl
            have k12 := hk_.later 12 _ (by kernel_rfl) rfl
            have k15 := hk_.later 15 _ (by kernel_rfl) rfl
            clear hk_
            refine flow_plain rfl ?_
            exact gives_move rfl ⟨hM_, h12⟩
          refine allFrom_cons ?_ ?_
          · refine stepK_by (by decide) ?_
            intro f_ a_ w_ hM_ hk_
            have h13 : a_.eval (.tmp 13) = .int .u64 (k : Int) := hk_.old 13 (by kernel_rfl)
            have k10 := hk_.later 10 _ (by kernel_rfl) rfl
            have k11 := hk_.later 11 _ (by kernel_rfl) rfl
            have k12 := hk_.later 12 _ (by kernel_rfl) rfl
            have k15 := hk_.later 15 _ (by kernel_rfl) rfl
            clear hk_
            refine flow_plain rfl ?_
            exact gives_move rfl ⟨hM_, h13⟩
          refine allFrom_cons ?_ ?_
          · refine stepK_by (by decide) ?_
            intro f_ a_ w_ hM_ hk_
            have h14 : a_.eval (.tmp 14) = .slice Aa a.length ca := hk_.old 14 (by kernel_rfl)
            have k10 := hk_.later 10 _ (by kernel_rfl) rfl
            have k11 := hk_.later 11 _ (by kernel_rfl) rfl
            have k12 := hk_.later 12 _ (by kernel_rfl) rfl
            have k15 := hk_.later 15 _ (by kernel_rfl) rfl
            clear hk_
            refine flow_plain rfl ?_
            exact gives_move rfl ⟨hM_, h14⟩
          refine allFrom_cons ?_ ?_
          · refine stepK_by (by decide) ?_
            intro f_ a_ w_ hM_ hk_
            have h15 : a_.eval (.tmp 15) = .slice Ab b.length cc := hk_.old 15 (by kernel_rfl)
            have k10 := hk_.later 10 _ (by kernel_rfl) rfl
            have k11 := hk_.later 11 _ (by kernel_rfl) rfl
            have k12 := hk_.later 12 _ (by kernel_rfl) rfl
            have k15 := hk_.later 15 _ (by kernel_rfl) rfl
            clear hk_
            refine flow_plain rfl ?_
            exact gives_move rfl ⟨hM_, h15⟩
          refine allFrom_cons ?_ ?_
          · refine stepK_by (by decide) ?_
            intro f_ a_ w_ hM_ hk_
            have h2 : a_.eval (.tmp 2) = .slice Ap pl cp := hk_.old 2 (by kernel_rfl)
            have k10 := hk_.later 10 _ (by kernel_rfl) rfl
            have k11 := hk_.later 11 _ (by kernel_rfl) rfl
            have k12 := hk_.later 12 _ (by kernel_rfl) rfl
            have k15 := hk_.later 15 _ (by kernel_rfl) rfl
            clear hk_
            refine flow_plain rfl ?_
            exact gives_move rfl ⟨hM_, h2⟩
          refine allFrom_cons ?_ ?_
          · refine stepK_by (by decide) ?_
            intro f_ a_ w_ hM_ hk_
            have h17 : a_.eval (.tmp 17) = .int .i64 (j : Int) := hk_.old 17 (by kernel_rfl)
            have k10 := hk_.later 10 _ (by kernel_rfl) rfl
            have k11 := hk_.later 11 _ (by kernel_rfl) rfl
            have k12 := hk_.later 12 _ (by kernel_rfl) rfl
            have k15 := hk_.later 15 _ (by kernel_rfl) rfl
            clear hk_
            refine flow_plain rfl ?_
            exact gives_move rfl ⟨hM_, h17⟩
          refine allFrom_cons ?_ ?_
          · refine stepK_by (by decide) ?_
            intro f_ a_ w_ hM_ hk_
            have h73 : a_.eval (.tmp 73) = (.slice Ap pl cp) := hk_.got 4 73 _ (by kernel_rfl) rfl rfl
            have h74 : a_.eval (.tmp 74) = (.int .i64 (j : Int)) := hk_.got 5 74 _ (by kernel_rfl) rfl rfl
            have k10 := hk_.later 10 _ (by kernel_rfl) rfl
            have k11 := hk_.later 11 _ (by kernel_rfl) rfl
            have k12 := hk_.later 12 _ (by kernel_rfl) rfl
            have k15 := hk_.later 15 _ (by kernel_rfl) rfl
            clear hk_
            refine flow_plain rfl ?_
            refine gives_keep hM_ ?_
            unfold gives
            have hc_ : ∀ v, a_.eval (.const v) = v := fun _ => rfl
            have hn_ : ∀ f, a_.eval (.func f) = .func (.func f) #[] #[] := fun _ => rfl
            generalize a_.eval = ρ_ at *
            go_simp
            exact ⟨rfl, rfl⟩
          refine allFrom_cons ?_ ?_
          · refine stepK_by (by decide) ?_
            intro f_ a_ w_ hM_ hk_
            have h2 : a_.eval (.tmp 2) = .slice Ap pl cp := hk_.old 2 (by kernel_rfl)
            have k10 := hk_.later 10 _ (by kernel_rfl) rfl
            have k11 := hk_.later 11 _ (by kernel_rfl) rfl
            have k12 := hk_.later 12 _ (by kernel_rfl) rfl
            have k15 := hk_.later 15 _ (by kernel_rfl) rfl
            clear hk_
            refine flow_plain rfl ?_
            exact gives_move rfl ⟨hM_, h2⟩
          refine allFrom_cons ?_ ?_
          · refine stepK_by (by decide) ?_
            intro f_ a_ w_ hM_ hk_
            have h17 : a_.eval (.tmp 17) = .int .i64 (j : Int) := hk_.old 17 (by kernel_rfl)
            have k10 := hk_.later 10 _ (by kernel_rfl) rfl
            have k11 := hk_.later 11 _ (by kernel_rfl) rfl
            have k12 := hk_.later 12 _ (by kernel_rfl) rfl
            have k15 := hk_.later 15 _ (by kernel_rfl) rfl
            clear hk_
            refine flow_plain rfl ?_
            exact gives_move rfl ⟨hM_, h17⟩
          refine allFrom_cons ?_ ?_
          · refine stepK_by (by decide) ?_
            intro f_ a_ w_ hM_ hk_
            have h76 : a_.eval (.tmp 76) = (.slice Ap pl cp) := hk_.got 7 76 _ (by kernel_rfl) rfl rfl
            have h77 : a_.eval (.tmp 77) = (.int .i64 (j : Int)) := hk_.got 8 77 _ (by kernel_rfl) rfl rfl
            have k10 := hk_.later 10 _ (by kernel_rfl) rfl
            have k11 := hk_.later 11 _ (by kernel_rfl) rfl
            have k12 := hk_.later 12 _ (by kernel_rfl) rfl
            have k15 := hk_.later 15 _ (by kernel_rfl) rfl
            clear hk_
            refine flow_plain rfl ?_
            refine gives_keep hM_ ?_
            unfold gives
            have hc_ : ∀ v, a_.eval (.const v) = v := fun _ => rfl
            have hn_ : ∀ f, a_.eval (.func f) = .func (.func f) #[] #[] := fun _ => rfl
            generalize a_.eval = ρ_ at *
            go_simp
            exact ⟨rfl, rfl⟩
          refine allFrom_cons ?_ ?_
          · intro f_ a_ w_ hM_ hk_
            have h69 : a_.eval (.tmp 69) = (.int .u64 (n : Int)) := hk_.got 0 69 _ (by kernel_rfl) rfl rfl
            have h70 : a_.eval (.tmp 70) = (.int .u64 (k : Int)) := hk_.got 1 70 _ (by kernel_rfl) rfl rfl
            have h71 : a_.eval (.tmp 71) = (.slice Aa a.length ca) := hk_.got 2 71 _ (by kernel_rfl) rfl rfl
            have h72 : a_.eval (.tmp 72) = (.slice Ab b.length cc) := hk_.got 3 72 _ (by kernel_rfl) rfl rfl
            have h75 : a_.eval (.tmp 75) = (.slice Ap j cp) := hk_.got 6 75 _ (by kernel_rfl) rfl rfl
            have h78 : a_.eval (.tmp 78) = (.slice Ap j cp) := hk_.got 9 78 _ (by kernel_rfl) rfl rfl
            have k10 : f_ 10 = none := hk_.un
            have k11 := hk_.later 11 _ (by kernel_rfl) rfl
            have k12 := hk_.later 12 _ (by kernel_rfl) rfl
            have k15 := hk_.later 15 _ (by kernel_rfl) rfl
            clear hk_
            simp only [List.map_cons, List.map_nil, k10, k11, k12, k15] at hM_
            simp only [List.map_cons, List.map_nil, upd_same, upd_ne f_ _ (show (11 : Nat) ≠ 10 by decide), upd_ne f_ _ (show (12 : Nat) ≠ 10 by decide), upd_ne f_ _ (show (14 : Nat) ≠ 10 by decide), upd_ne f_ _ (show (15 : Nat) ≠ 10 by decide), k11, k12, k15]
            refine flow_plain rfl ?_
            unfold gives
            have hc_ : ∀ v, a_.eval (.const v) = v := fun _ => rfl
            have hn_ : ∀ f, a_.eval (.func f) = .func (.func f) #[] #[] := fun _ => rfl
            generalize a_.eval = ρ_ at *
            go_simp
            exact (HPA.out w_ (bx_trans HB25.out (And.left hM_))).mono fun e w' hh => by obtain ⟨hb', c, e1, hv⟩ := hh; exact ⟨_, e1, (KCo.below hM_ hb').call hv, c, rfl⟩
          refine allFrom_cons ?_ ?_
          · intro f_ a_ w_ hM_ hk_
            have h79 := hk_.got 10 79 _ (by kernel_rfl) rfl rfl
            have k10 := hk_.val 10 79 _ (by kernel_rfl) rfl rfl
            have k11 : f_ 11 = none := hk_.un
            have k12 := hk_.later 12 _ (by kernel_rfl) rfl
            have k15 := hk_.later 15 _ (by kernel_rfl) rfl
            clear hk_
            simp only [List.map_cons, List.map_nil, k10, k11, k12, k15] at hM_
            simp only [List.map_cons, List.map_nil, upd_same, upd_ne f_ _ (show (10 : Nat) ≠ 11 by decide), upd_ne f_ _ (show (12 : Nat) ≠ 11 by decide), upd_ne f_ _ (show (14 : Nat) ≠ 11 by decide), upd_ne f_ _ (show (15 : Nat) ≠ 11 by decide), k10, k12, k15]
            refine flow_plain rfl ?_
            exact gives_move rfl ⟨KCo.move hM_, h79⟩
          refine allFrom_cons ?_ ?_
          · intro f_ a_ w_ hM_ hk_
            have h68 := hk_.got 11 68 _ (by kernel_rfl) rfl rfl
            have k10 := hk_.val 10 79 _ (by kernel_rfl) rfl rfl
            have k11 := hk_.val 11 68 _ (by kernel_rfl) rfl rfl
            have k12 : f_ 12 = none := hk_.un
            have k15 := hk_.later 15 _ (by kernel_rfl) rfl
            clear hk_
            simp only [List.map_cons, List.map_nil, k10, k11, k12, k15] at hM_
            simp only [List.map_cons, List.map_nil, upd_same, upd_ne f_ _ (show (10 : Nat) ≠ 12 by decide), upd_ne f_ _ (show (11 : Nat) ≠ 12 by decide), upd_ne f_ _ (show (14 : Nat) ≠ 12 by decide), upd_ne f_ _ (show (15 : Nat) ≠ 12 by decide), k10, k11, k15]
            refine flow_plain rfl ?_
            obtain ⟨c_, e_, hc_⟩ := KCo.at15 hM_
            exact gives_ext rfl e_ rfl ⟨KCo.ext hM_ hc_, trivial⟩
          refine allFrom_cons ?_ ?_
          · refine stepK_by (by decide) ?_
            intro f_ a_ w_ hM_ hk_
            have h68 := hk_.got 11 68 _ (by kernel_rfl) rfl rfl
            have k10 := hk_.val 10 79 _ (by kernel_rfl) rfl rfl
            have k11 := hk_.val 11 68 _ (by kernel_rfl) rfl rfl
            clear hk_
            refine flow_plain rfl ?_
            have hM := hM_
            simp only [List.map_cons, List.map_nil, k10, k11] at hM
            refine gives_keep hM_ ?_
            unfold gives
            have hc_ : ∀ v, a_.eval (.const v) = v := fun _ => rfl
            have hn_ : ∀ f, a_.eval (.func f) = .func (.func f) #[] #[] := fun _ => rfl
            obtain ⟨u_, h68⟩ := h68
            generalize a_.eval = ρ_ at *
            go_simp
            exact ⟨rfl, rfl⟩
          refine allFrom_cons ?_ ?_
          · intro f_ a_ w_ hM_ hk_
            have k14 : f_ 14 = none := hk_.un
            have k15 := hk_.later 15 _ (by kernel_rfl) rfl
            clear hk_
            simp only [List.map_cons, List.map_nil, k14, k15] at hM_
            simp only [List.map_cons, List.map_nil, upd_same, upd_ne f_ _ (show (10 : Nat) ≠ 14 by decide), upd_ne f_ _ (show (11 : Nat) ≠ 14 by decide), upd_ne f_ _ (show (12 : Nat) ≠ 14 by decide), upd_ne f_ _ (show (15 : Nat) ≠ 14 by decide), k15]
            refine flow_plain rfl ?_
            exact gives_val (gives_alloc_run _ rfl zeroCl) ⟨KCo.new hM_, trivial⟩
          refine allFrom_cons ?_ ?_
          · intro f_ a_ w_ hM_ hk_
            have k10 := hk_.val 10 79 _ (by kernel_rfl) rfl rfl
            have k11 := hk_.val 11 68 _ (by kernel_rfl) rfl rfl
            have k12 := hk_.val 12 80 _ (by kernel_rfl) rfl rfl
            have k14 := hk_.val 14 20 _ (by kernel_rfl) rfl rfl
            have k15 : f_ 15 = none := hk_.un
            clear hk_
            simp only [List.map_cons, List.map_nil, k10, k11, k12, k14, k15] at hM_
            simp only [List.map_cons, List.map_nil, upd_same, upd_ne f_ _ (show (10 : Nat) ≠ 15 by decide), upd_ne f_ _ (show (11 : Nat) ≠ 15 by decide), upd_ne f_ _ (show (12 : Nat) ≠ 15 by decide), upd_ne f_ _ (show (14 : Nat) ≠ 15 by decide), k10, k11, k12, k14]
            refine flow_plain rfl ?_
            obtain ⟨g_, cs_, e18, hg_, hbk, hsz_⟩ := KCo.at18 hM_
            obtain ⟨cs16, e16, hc16⟩ := KCo.at16 hM_
            have hM2 := hM_
            rw [e18] at hM2
            have ho16 := hc16.one
            refine gives_store_agg rfl e18 e16 (by rw [ho16.1]; exact aggCl nilC nilC) hbk (by rw [ho16.1, hsz_]; exact Nat.le_refl _) ho16.2 (fun w1 hp1 => ?_)
            rw [spl_whole (by rw [ho16.1, hsz_])] at hp1
            refine ⟨?_, trivial⟩
            rw [e18]
            exact KCo.store hM2 hc16 hg_ hbk hp1
          exact allFrom_nil
        intro f_ y_ w_ hM_ hf_ hd_
        have h69 : f_ 69 = (.int .u64 (n : Int)) := (hf_ 0 69 _ (by decide) rfl rfl).1
        have h70 : f_ 70 = (.int .u64 (k : Int)) := (hf_ 1 70 _ (by decide) rfl rfl).1
        have h71 : f_ 71 = (.slice Aa a.length ca) := (hf_ 2 71 _ (by decide) rfl rfl).1
        have h72 : f_ 72 = (.slice Ab b.length cc) := (hf_ 3 72 _ (by decide) rfl rfl).1
        have h73 : f_ 73 = (.slice Ap pl cp) := (hf_ 4 73 _ (by decide) rfl rfl).1
        have h74 : f_ 74 = (.int .i64 (j : Int)) := (hf_ 5 74 _ (by decide) rfl rfl).1
        have h75 : f_ 75 = (.slice Ap j cp) := (hf_ 6 75 _ (by decide) rfl rfl).1
        have h76 : f_ 76 = (.slice Ap pl cp) := (hf_ 7 76 _ (by decide) rfl rfl).1
        have h77 : f_ 77 = (.int .i64 (j : Int)) := (hf_ 8 77 _ (by decide) rfl rfl).1
        have h78 : f_ 78 = (.slice Ap j cp) := (hf_ 9 78 _ (by decide) rfl rfl).1
        have k10 := (hf_ 10 79 _ (by decide) rfl rfl).2
        have h79 := (hf_ 10 79 _ (by decide) rfl rfl).1
        have k11 := (hf_ 11 68 _ (by decide) rfl rfl).2
        have h68 := (hf_ 11 68 _ (by decide) rfl rfl).1
        have k12 := (hf_ 12 80 _ (by decide) rfl rfl).2
        have h81 : f_ 81 = (.bool true) := (hf_ 13 81 _ (by decide) rfl rfl).1
        have k14 := (hf_ 14 20 _ (by decide) rfl rfl).2
        obtain ⟨x15, k15⟩ := hd_ 15 (by decide)
        simp only [List.map_cons, List.map_nil, k10, k11, k12, k14, k15] at hM_
        simp only [mix, List.drop_succ_cons, List.drop_zero, h69, h70, h71, h72, h73, h74, h75, h76, h77, h78, h81]
        clear hf_ hd_ h69 h70 h71 h72 h73 h74 h75 h76 h77 h78 h81 k10 k11 k12 k14 k15
        obtain ⟨hb56, g20, cs, e20, hbk20, hsz20, hc20⟩ := KCo.done hM_
        rw [e20]
        clear hM_ e20
        rename World => w6
        have hb26 := bx_trans HB25.out hb56
        obtain ⟨v1, v2, e1, oa, ob⟩ := hc20
        injection e1 with e1
        subst e1
        obtain ⟨x, hx⟩ : ∃ x : List UInt8, x = 0 :: a := ⟨_, rfl⟩
        obtain ⟨y, hy⟩ : ∃ y : List UInt8, y = 0 :: b := ⟨_, rfl⟩
        rw [← hx] at oa
        rw [← hy] at ob
        have HXA := hid hx
        have HYB := hid hy
        clear hx hy
        obtain ⟨A1, d1, rfl, k1, r1⟩ := oa.rd
        obtain ⟨A2, d2, rfl, k2, r2⟩ := ob.rd
        have hc0 := hbk20.cell 0
        have hc1 := hbk20.cell 1
        have hlt20 := hbk20.lt
        have HR1 := hid r1
        have HR2 := hid r2
        have HB26 := hid hb26
        clear oa ob r1 r2 k1 k2 hbk20 hsz20 hb56 hb26 hb25
        go_wp2_with fail
        refine wp_hold (wp_region_lit ?_)
        refine wp_flowSE [0, 1, 3, 7, 15, 31, 63, 127, 255, 511, 1023, 2047, 4095, 8191, 16383, 32767, 65535, 131071, 262143, 524287] 20 [false, false, false, false, false, false, false, false, false, false, false, false, false, false, false, false, false, false, false, false, false, false, false, false, false, false, false, false, false, false, false, false, false, false, false, false, false, false, false, false, false, false, false, false, false, false, false, false, false, false, false, false, false, false, false, false, false, false, false, false, false, false, false, false, false, false, false, false, false, false, false, false, false, false, false, false, false, false, false, false, false, false, true, true, true, true, true, true, true, true, true, true, true, true, true, true, true, true, true, true, true, true] (by kernel_rfl) (by kernel_rfl) (by kernel_rfl) [FP.eq (.bool true), FP.eq (.bool false), FP.eq (.bool false), FP.eq (.pointer (some ⟨g20, 0, none⟩)), FP.eq (.slice A1 x.length d1), FP.eq (.string ⟨x.toArray⟩), FP.eq (.slice Aa a.length ca), FP.eq (.string ⟨a.toArray⟩), FP.eq (.string ⟨x.toArray⟩), FP.eq (.bool false), FP.eq (.bool false), FP.eq (.bool false), FP.eq (.pointer (some ⟨g20, 1, none⟩)), FP.eq (.slice A2 y.length d2), FP.eq (.string ⟨y.toArray⟩), FP.eq (.slice Ab b.length cc), FP.eq (.string ⟨b.toArray⟩), FP.eq (.string ⟨y.toArray⟩), FP.eq (.bool false), FP.eq (.bool false)] ?_ ?_
        · refine allFrom_cons ?_ ?_
          · intro a_ w_ hk_
            have h21 : a_.eval (.tmp 21) = .bool true := hk_.old 21 (by kernel_rfl)
            have hx_ := hk_.ext
            clear hk_
            refine flow_plain rfl ?_
            exact gives_move rfl ⟨Below.refl _ _, h21⟩
          refine allFrom_cons ?_ ?_
          · intro a_ w_ hk_
            have h82 : a_.eval (.tmp 82) = (.bool true) := hk_.got 0 82 _ (by kernel_rfl) rfl rfl
            have hx_ := hk_.ext
            clear hk_
            refine flow_plain rfl ?_
            unfold gives
            have hc_ : ∀ v, a_.eval (.const v) = v := fun _ => rfl
            have hn_ : ∀ f, a_.eval (.func f) = .func (.func f) #[] #[] := fun _ => rfl
            generalize a_.eval = ρ_ at *
            go_simp
            exact ⟨Below.refl _ _, rfl⟩
          refine allFrom_cons ?_ ?_
          · intro a_ w_ hk_
            have h83 : a_.eval (.tmp 83) = (.bool false) := hk_.got 1 83 _ (by kernel_rfl) rfl rfl
            have hx_ := hk_.ext
            clear hk_
            refine flow_plain rfl ?_
            exact gives_move rfl ⟨Below.refl _ _, h83⟩
          refine allFrom_cons ?_ ?_
          · intro a_ w_ hk_
            have h20 : a_.eval (.tmp 20) = .pointer (some ⟨g20, 0, none⟩) := hk_.old 20 (by kernel_rfl)
            have hg_ : a_.eval (.tmp 84) = .bool false := hk_.got 2 84 _ (by kernel_rfl) rfl rfl
            have hy_ := hk_.want 2 _ 84 false rfl rfl hg_
            have hx_ := hk_.ext
            clear hk_
            refine flow_want rfl hy_ ?_
            unfold gives
            have hc_ : ∀ v, a_.eval (.const v) = v := fun _ => rfl
            have hn_ : ∀ f, a_.eval (.func f) = .func (.func f) #[] #[] := fun _ => rfl
            clear hy_ hg_
            generalize a_.eval = ρ_ at *
            go_simp
            exact ⟨Below.refl _ _, rfl⟩
          refine allFrom_cons ?_ ?_
          · intro a_ w_ hk_
            have h85 : a_.eval (.tmp 85) = (.pointer (some ⟨g20, 0, none⟩)) := hk_.got 3 85 _ (by kernel_rfl) rfl rfl
            have hg_ : a_.eval (.tmp 84) = .bool false := hk_.got 2 84 _ (by kernel_rfl) rfl rfl
            have hy_ := hk_.want 2 _ 84 false rfl rfl hg_
            have hx_ := hk_.ext
            clear hk_
            refine flow_want rfl hy_ ?_
            unfold gives
            have hc_ : ∀ v, a_.eval (.const v) = v := fun _ => rfl
            have hn_ : ∀ f, a_.eval (.func f) = .func (.func f) #[] #[] := fun _ => rfl
            clear hy_ hg_
            have hcell := (hx_.cell (p := ⟨g20, 0, none⟩) hlt20).trans hc0
            generalize a_.eval = ρ_ at *
            go_simp
            exact ⟨Below.refl _ _, rfl⟩
          refine allFrom_cons ?_ ?_
          · intro a_ w_ hk_
            have h86 : a_.eval (.tmp 86) = (.slice A1 x.length d1) := hk_.got 4 86 _ (by kernel_rfl) rfl rfl
            have hg_ : a_.eval (.tmp 84) = .bool false := hk_.got 2 84 _ (by kernel_rfl) rfl rfl
            have hy_ := hk_.want 2 _ 84 false rfl rfl hg_
            have hx_ := hk_.ext
            clear hk_
            refine flow_want rfl hy_ ?_
            unfold gives
            have hc_ : ∀ v, a_.eval (.const v) = v := fun _ => rfl
            have hn_ : ∀ f, a_.eval (.func f) = .func (.func f) #[] #[] := fun _ => rfl
            clear hy_ hg_
            have hcv := convBS d1 (HR1.out.below hx_)
            generalize a_.eval = ρ_ at *
            go_simp
            exact ⟨Below.refl _ _, rfl⟩
          refine allFrom_cons ?_ ?_
          · intro a_ w_ hk_
            have h14 : a_.eval (.tmp 14) = .slice Aa a.length ca := hk_.old 14 (by kernel_rfl)
            have hg_ : a_.eval (.tmp 84) = .bool false := hk_.got 2 84 _ (by kernel_rfl) rfl rfl
            have hy_ := hk_.want 2 _ 84 false rfl rfl hg_
            have hx_ := hk_.ext
            clear hk_
            refine flow_want rfl hy_ ?_
            exact gives_move rfl ⟨Below.refl _ _, h14⟩
          refine allFrom_cons ?_ ?_
          · intro a_ w_ hk_
            have h88 : a_.eval (.tmp 88) = (.slice Aa a.length ca) := hk_.got 6 88 _ (by kernel_rfl) rfl rfl
            have hg_ : a_.eval (.tmp 84) = .bool false := hk_.got 2 84 _ (by kernel_rfl) rfl rfl
            have hy_ := hk_.want 2 _ 84 false rfl rfl hg_
            have hx_ := hk_.ext
            clear hk_
            refine flow_want rfl hy_ ?_
            unfold gives
            have hc_ : ∀ v, a_.eval (.const v) = v := fun _ => rfl
            have hn_ : ∀ f, a_.eval (.func f) = .func (.func f) #[] #[] := fun _ => rfl
            clear hy_ hg_
            have hcv := convBS ca (HRA.out.below (bx_trans HB26.out hx_))
            generalize a_.eval = ρ_ at *
            go_simp
            exact ⟨Below.refl _ _, rfl⟩
          refine allFrom_cons ?_ ?_
          · intro a_ w_ hk_
            have h89 : a_.eval (.tmp 89) = (.string ⟨a.toArray⟩) := hk_.got 7 89 _ (by kernel_rfl) rfl rfl
            have hg_ : a_.eval (.tmp 84) = .bool false := hk_.got 2 84 _ (by kernel_rfl) rfl rfl
            have hy_ := hk_.want 2 _ 84 false rfl rfl hg_
            have hx_ := hk_.ext
            clear hk_
            refine flow_want rfl hy_ ?_
            unfold gives
            have hc_ : ∀ v, a_.eval (.const v) = v := fun _ => rfl
            have hn_ : ∀ f, a_.eval (.func f) = .func (.func f) #[] #[] := fun _ => rfl
            clear hy_ hg_
            have hcl : ¬ 9223372036854775807 < 1 + a.length := by rw [HAL.out]; decide
            generalize a_.eval = ρ_ at *
            go_simp
            exact ⟨Below.refl _ _, congrArg Value.string (by rw [HXA.out]; exact str_add a)⟩
          refine allFrom_cons ?_ ?_
          · intro a_ w_ hk_
            have h87 : a_.eval (.tmp 87) = (.string ⟨x.toArray⟩) := hk_.got 5 87 _ (by kernel_rfl) rfl rfl
            have h90 : a_.eval (.tmp 90) = (.string ⟨x.toArray⟩) := hk_.got 8 90 _ (by kernel_rfl) rfl rfl
            have hg_ : a_.eval (.tmp 84) = .bool false := hk_.got 2 84 _ (by kernel_rfl) rfl rfl
            have hy_ := hk_.want 2 _ 84 false rfl rfl hg_
            have hx_ := hk_.ext
            clear hk_
            refine flow_want rfl hy_ ?_
            unfold gives
            have hc_ : ∀ v, a_.eval (.const v) = v := fun _ => rfl
            have hn_ : ∀ f, a_.eval (.func f) = .func (.func f) #[] #[] := fun _ => rfl
            clear hy_ hg_
            generalize a_.eval = ρ_ at *
            go_simp
            exact ⟨Below.refl _ _, rfl⟩
          refine allFrom_cons ?_ ?_
          · intro a_ w_ hk_
            have h84 : a_.eval (.tmp 84) = (.bool false) := hk_.got 2 84 _ (by kernel_rfl) rfl rfl
            have h91 : a_.eval (.tmp 91) = (.bool false) := hk_.got 9 91 _ (by kernel_rfl) rfl rfl
            have hx_ := hk_.ext
            clear hk_
            refine flow_plain rfl ?_
            exact gives_pick rfl h84 ⟨Below.refl _ _, h91⟩
          refine allFrom_cons ?_ ?_
          · intro a_ w_ hk_
            have h92 : a_.eval (.tmp 92) = (.bool false) := hk_.got 10 92 _ (by kernel_rfl) rfl rfl
            have hx_ := hk_.ext
            clear hk_
            refine flow_plain rfl ?_
            exact gives_move rfl ⟨Below.refl _ _, h92⟩
          refine allFrom_cons ?_ ?_
          · intro a_ w_ hk_
            have h20 : a_.eval (.tmp 20) = .pointer (some ⟨g20, 0, none⟩) := hk_.old 20 (by kernel_rfl)
            have hg_ : a_.eval (.tmp 93) = .bool false := hk_.got 11 93 _ (by kernel_rfl) rfl rfl
            have hy_ := hk_.want 11 _ 93 false rfl rfl hg_
            have hx_ := hk_.ext
            clear hk_
            refine flow_want rfl hy_ ?_
            unfold gives
            have hc_ : ∀ v, a_.eval (.const v) = v := fun _ => rfl
            have hn_ : ∀ f, a_.eval (.func f) = .func (.func f) #[] #[] := fun _ => rfl
            clear hy_ hg_
            generalize a_.eval = ρ_ at *
            go_simp
            exact ⟨Below.refl _ _, rfl⟩
          refine allFrom_cons ?_ ?_
          · intro a_ w_ hk_
            have h94 : a_.eval (.tmp 94) = (.pointer (some ⟨g20, 1, none⟩)) := hk_.got 12 94 _ (by kernel_rfl) rfl rfl
            have hg_ : a_.eval (.tmp 93) = .bool false := hk_.got 11 93 _ (by kernel_rfl) rfl rfl
            have hy_ := hk_.want 11 _ 93 false rfl rfl hg_
            have hx_ := hk_.ext
            clear hk_
            refine flow_want rfl hy_ ?_
            unfold gives
            have hc_ : ∀ v, a_.eval (.const v) = v := fun _ => rfl
            have hn_ : ∀ f, a_.eval (.func f) = .func (.func f) #[] #[] := fun _ => rfl
            clear hy_ hg_
            have hcell := (hx_.cell (p := ⟨g20, 1, none⟩) hlt20).trans hc1
            generalize a_.eval = ρ_ at *
            go_simp
            exact ⟨Below.refl _ _, rfl⟩
          refine allFrom_cons ?_ ?_
          · intro a_ w_ hk_
            have h95 : a_.eval (.tmp 95) = (.slice A2 y.length d2) := hk_.got 13 95 _ (by kernel_rfl) rfl rfl
            have hg_ : a_.eval (.tmp 93) = .bool false := hk_.got 11 93 _ (by kernel_rfl) rfl rfl
            have hy_ := hk_.want 11 _ 93 false rfl rfl hg_
            have hx_ := hk_.ext
            clear hk_
            refine flow_want rfl hy_ ?_
            unfold gives
            have hc_ : ∀ v, a_.eval (.const v) = v := fun _ => rfl
            have hn_ : ∀ f, a_.eval (.func f) = .func (.func f) #[] #[] := fun _ => rfl
            clear hy_ hg_
            have hcv := convBS d2 (HR2.out.below hx_)
            generalize a_.eval = ρ_ at *
            go_simp
            exact ⟨Below.refl _ _, rfl⟩
          refine allFrom_cons ?_ ?_
          · intro a_ w_ hk_
            have h15 : a_.eval (.tmp 15) = .slice Ab b.length cc := hk_.old 15 (by kernel_rfl)
            have hg_ : a_.eval (.tmp 93) = .bool false := hk_.got 11 93 _ (by kernel_rfl) rfl rfl
            have hy_ := hk_.want 11 _ 93 false rfl rfl hg_
            have hx_ := hk_.ext
            clear hk_
            refine flow_want rfl hy_ ?_
            exact gives_move rfl ⟨Below.refl _ _, h15⟩
          refine allFrom_cons ?_ ?_
          · intro a_ w_ hk_
            have h97 : a_.eval (.tmp 97) = (.slice Ab b.length cc) := hk_.got 15 97 _ (by kernel_rfl) rfl rfl
            have hg_ : a_.eval (.tmp 93) = .bool false := hk_.got 11 93 _ (by kernel_rfl) rfl rfl
            have hy_ := hk_.want 11 _ 93 false rfl rfl hg_
            have hx_ := hk_.ext
            clear hk_
            refine flow_want rfl hy_ ?_
            unfold gives
            have hc_ : ∀ v, a_.eval (.const v) = v := fun _ => rfl
            have hn_ : ∀ f, a_.eval (.func f) = .func (.func f) #[] #[] := fun _ => rfl
            clear hy_ hg_
            have hcv := convBS cc (HRB.out.below (bx_trans HB26.out hx_))
            generalize a_.eval = ρ_ at *
            go_simp
            exact ⟨Below.refl _ _, rfl⟩
          refine allFrom_cons ?_ ?_
          · intro a_ w_ hk_
            have h98 : a_.eval (.tmp 98) = (.string ⟨b.toArray⟩) := hk_.got 16 98 _ (by kernel_rfl) rfl rfl
            have hg_ : a_.eval (.tmp 93) = .bool false := hk_.got 11 93 _ (by kernel_rfl) rfl rfl
            have hy_ := hk_.want 11 _ 93 false rfl rfl hg_
            have hx_ := hk_.ext
            clear hk_
            refine flow_want rfl hy_ ?_
            unfold gives
            have hc_ : ∀ v, a_.eval (.const v) = v := fun _ => rfl
            have hn_ : ∀ f, a_.eval (.func f) = .func (.func f) #[] #[] := fun _ => rfl
            clear hy_ hg_
            have hcl : ¬ 9223372036854775807 < 1 + b.length := by rw [HBL.out]; decide
            generalize a_.eval = ρ_ at *
            go_simp
            exact ⟨Below.refl _ _, congrArg Value.string (by rw [HYB.out]; exact str_add b)⟩
          refine allFrom_cons ?_ ?_
          · intro a_ w_ hk_
            have h96 : a_.eval (.tmp 96) = (.string ⟨y.toArray⟩) := hk_.got 14 96 _ (by kernel_rfl) rfl rfl
            have h99 : a_.eval (.tmp 99) = (.string ⟨y.toArray⟩) := hk_.got 17 99 _ (by kernel_rfl) rfl rfl
            have hg_ : a_.eval (.tmp 93) = .bool false := hk_.got 11 93 _ (by kernel_rfl) rfl rfl
            have hy_ := hk_.want 11 _ 93 false rfl rfl hg_
            have hx_ := hk_.ext
            clear hk_
            refine flow_want rfl hy_ ?_
            unfold gives
            have hc_ : ∀ v, a_.eval (.const v) = v := fun _ => rfl
            have hn_ : ∀ f, a_.eval (.func f) = .func (.func f) #[] #[] := fun _ => rfl
            clear hy_ hg_
            generalize a_.eval = ρ_ at *
            go_simp
            exact ⟨Below.refl _ _, rfl⟩
          refine allFrom_cons ?_ ?_
          · intro a_ w_ hk_
            have h93 : a_.eval (.tmp 93) = (.bool false) := hk_.got 11 93 _ (by kernel_rfl) rfl rfl
            have h100 : a_.eval (.tmp 100) = (.bool false) := hk_.got 18 100 _ (by kernel_rfl) rfl rfl
            have hx_ := hk_.ext
            clear hk_
            refine flow_plain rfl ?_
            exact gives_pick rfl h93 ⟨Below.refl _ _, h100⟩
          exact allFrom_nil
        intro f_ w_ hx_ hf_
        have h82 : f_ 82 = (.bool true) := hf_ 0 82 _ (by decide) rfl rfl
        have h83 : f_ 83 = (.bool false) := hf_ 1 83 _ (by decide) rfl rfl
        have h84 : f_ 84 = (.bool false) := hf_ 2 84 _ (by decide) rfl rfl
        have h85 : f_ 85 = (.pointer (some ⟨g20, 0, none⟩)) := hf_ 3 85 _ (by decide) rfl rfl
        have h86 : f_ 86 = (.slice A1 x.length d1) := hf_ 4 86 _ (by decide) rfl rfl
        have h87 : f_ 87 = (.string ⟨x.toArray⟩) := hf_ 5 87 _ (by decide) rfl rfl
        have h88 : f_ 88 = (.slice Aa a.length ca) := hf_ 6 88 _ (by decide) rfl rfl
        have h89 : f_ 89 = (.string ⟨a.toArray⟩) := hf_ 7 89 _ (by decide) rfl rfl
        have h90 : f_ 90 = (.string ⟨x.toArray⟩) := hf_ 8 90 _ (by decide) rfl rfl
        have h91 : f_ 91 = (.bool false) := hf_ 9 91 _ (by decide) rfl rfl
        have h92 : f_ 92 = (.bool false) := hf_ 10 92 _ (by decide) rfl rfl
        have h93 : f_ 93 = (.bool false) := hf_ 11 93 _ (by decide) rfl rfl
        have h94 : f_ 94 = (.pointer (some ⟨g20, 1, none⟩)) := hf_ 12 94 _ (by decide) rfl rfl
        have h95 : f_ 95 = (.slice A2 y.length d2) := hf_ 13 95 _ (by decide) rfl rfl
        have h96 : f_ 96 = (.string ⟨y.toArray⟩) := hf_ 14 96 _ (by decide) rfl rfl
        have h97 : f_ 97 = (.slice Ab b.length cc) := hf_ 15 97 _ (by decide) rfl rfl
        have h98 : f_ 98 = (.string ⟨b.toArray⟩) := hf_ 16 98 _ (by decide) rfl rfl
        have h99 : f_ 99 = (.string ⟨y.toArray⟩) := hf_ 17 99 _ (by decide) rfl rfl
        have h100 : f_ 100 = (.bool false) := hf_ 18 100 _ (by decide) rfl rfl
        have h101 : f_ 101 = (.bool false) := hf_ 19 101 _ (by decide) rfl rfl
        simp only [mix, h82, h83, h84, h85, h86, h87, h88, h89, h90, h91, h92, h93, h94, h95, h96, h97, h98, h99, h100, h101]
        clear h82 h83 h84 h85 h86 h87 h88 h89 h90 h91 h92 h93 h94 h95 h96 h97 h98 h99 h100 h101
        clear hf_
        rename World => w7
        have hb27 := bx_trans HB26.out hx_
        have HB27 := hid hb27
        clear hx_ hb27 hc0 hc1 hlt20 HR1 HR2 HXA HYB
        go_wp2_with fail
        refine wp_flowK (by kernel_rfl) [0, 0, 0, 0, 0, 0, 48, 0, 0, 384, 1023, 2047, 4095, 4095, 0, 24575, 65535] 16 [false, false, false, false, false, false, false, false, false, false, false, false, false, false, false, false, false, false, false, false, false, false, true, false, false, false, false, false, false, false, false, false, false, false, false, false, false, false, false, false, false, false, false, false, false, false, false, false, false, false, false, false, false, false, false, false, false, false, false, false, false, false, false, false, false, false, false, false, false, false, false, false, false, false, false, false, false, false, false, false, false, false, false, false, false, false, false, false, false, false, false, false, false, false, false, false, false, false, false, false, false, false, true, true, true, true, true, true, true, true, true, true, true, true, true, true] (by kernel_rfl) (by decide) (by kernel_rfl) [KP.eq (.int .u64 (n : Int)), KP.eq (.int .u64 (k : Int)), KP.eq (.slice Aa a.length ca), KP.eq (.slice Aa a.length ca), KP.eq (.slice Ap pl cp), KP.eq (.int .i64 (j : Int)), KP.eq (.slice Ap j cp), KP.eq (.slice Ap pl cp), KP.eq (.int .i64 (j : Int)), KP.eq (.slice Ap j cp), KP.shown false, KP.shown false, KP.any, KP.eq (.bool false), KP.any, KP.any] [10, 11, 12, 14, 15] (KCo w7 [] [] false) ?_ ?_ ?_
        · simp only [List.map_cons, List.map_nil]
          exact KCo.start
        · refine allFrom_cons ?_ ?_
          · refine stepK_by (by decide) ?_
            intro f_ a_ w_ hM_ hk_
            have h12 : a_.eval (.tmp 12) = .int .u64 (n : Int) := hk_.old 12 (by kernel_rfl)
            have k10 := hk_.later 10 _ (by kernel_rfl) rfl
            have k11 := hk_.later 11 _ (by kernel_rfl) rfl
            have k12 := hk_.later 12 _ (by kernel_rfl) rfl
            have k15 := hk_.later 15 _ (by kernel_rfl) rfl
            clear hk_
            refine flow_plain rfl ?_
            exact gives_move rfl ⟨hM_, h12⟩
          refine allFrom_cons ?_ ?_
          · refine stepK_by (by decide) ?_
            intro f_ a_ w_ hM_ hk_
            have h13 : a_.eval (.tmp 13) = .int .u64 (k : Int) := hk_.old 13 (by kernel_rfl)
            have k10 := hk_.later 10 _ (by kernel_rfl) rfl
            have k11 := hk_.later 11 _ (by kernel_rfl) rfl
            have k12 := hk_.later 12 _ (by kernel_rfl) rfl
            have k15 := hk_.later 15 _ (by kernel_rfl) rfl
            clear hk_
            refine flow_plain rfl ?_
            exact gives_move rfl ⟨hM_, h13⟩
          refine allFrom_cons ?_ ?_
          · refine stepK_by (by decide) ?_
            intro f_ a_ w_ hM_ hk_
            have h14 : a_.eval (.tmp 14) = .slice Aa a.length ca := hk_.old 14 (by kernel_rfl)
            have k10 := hk_.later 10 _ (by kernel_rfl) rfl
            have k11 := hk_.later 11 _ (by kernel_rfl) rfl
            have k12 := hk_.later 12 _ (by kernel_rfl) rfl
            have k15 := hk_.later 15 _ (by kernel_rfl) rfl
            clear hk_
            refine flow_plain rfl ?_
            exact gives_move rfl ⟨hM_, h14⟩
          refine allFrom_cons ?_ ?_
          · refine stepK_by (by decide) ?_
            intro f_ a_ w_ hM_ hk_
            have h14 : a_.eval (.tmp 14) = .slice Aa a.length ca := hk_.old 14 (by kernel_rfl)
            have k10 := hk_.later 10 _ (by kernel_rfl) rfl
            have k11 := hk_.later 11 _ (by kernel_rfl) rfl
            have k12 := hk_.later 12 _ (by kernel_rfl) rfl
            have k15 := hk_.later 15 _ (by kernel_rfl) rfl
            clear hk_
            refine flow_plain rfl ?_
            exact gives_move rfl ⟨hM_, h14⟩
          refine allFrom_cons ?_ ?_
          · refine stepK_by (by decide) ?_
            intro f_ a_ w_ hM_ hk_
            have h2 : a_.eval (.tmp 2) = .slice Ap pl cp := hk_.old 2 (by kernel_rfl)
            have k10 := hk_.later 10 _ (by kernel_rfl) rfl
            have k11 := hk_.later 11 _ (by kernel_rfl) rfl
            have k12 := hk_.later 12 _ (by kernel_rfl) rfl
            have k15 := hk_.later 15 _ (by kernel_rfl) rfl
            clear hk_
            refine flow_plain rfl ?_
            exact gives_move rfl ⟨hM_, h2⟩
          refine allFrom_cons ?_ ?_
          · refine stepK_by (by decide) ?_
            intro f_ a_ w_ hM_ hk_
            have h17 : a_.eval (.tmp 17) = .int .i64 (j : Int) := hk_.old 17 (by kernel_rfl)
            have k10 := hk_.later 10 _ (by kernel_rfl) rfl
            have k11 := hk_.later 11 _ (by kernel_rfl) rfl
            have k12 := hk_.later 12 _ (by kernel_rfl) rfl
            have k15 := hk_.later 15 _ (by kernel_rfl) rfl
            clear hk_
            refine flow_plain rfl ?_
            exact gives_move rfl ⟨hM_, h17⟩
          refine allFrom_cons ?_ ?_
          · refine stepK_by (by decide) ?_
            intro f_ a_ w_ hM_ hk_
            have h107 : a_.eval (.tmp 107) = (.slice Ap pl cp) := hk_.got 4 107 _ (by kernel_rfl) rfl rfl
            have h108 : a_.eval (.tmp 108) = (.int .i64 (j : Int)) := hk_.got 5 108 _ (by kernel_rfl) rfl rfl
            have k10 := hk_.later 10 _ (by kernel_rfl) rfl
            have k11 := hk_.later 11 _ (by kernel_rfl) rfl
            have k12 := hk_.later 12 _ (by kernel_rfl) rfl
            have k15 := hk_.later 15 _ (by kernel_rfl) rfl
            clear hk_
            refine flow_plain rfl ?_
            refine gives_keep hM_ ?_
            unfold gives
            have hc_ : ∀ v, a_.eval (.const v) = v := fun _ => rfl
            have hn_ : ∀ f, a_.eval (.func f) = .func (.func f) #[] #[] := fun _ => rfl
            generalize a_.eval = ρ_ at *
            go_simp
            exact ⟨rfl, rfl⟩
          refine allFrom_cons ?_ ?_
          · refine stepK_by (by decide) ?_
            intro f_ a_ w_ hM_ hk_
            have h2 : a_.eval (.tmp 2) = .slice Ap pl cp := hk_.old 2 (by kernel_rfl)
            have k10 := hk_.later 10 _ (by kernel_rfl) rfl
            have k11 := hk_.later 11 _ (by kernel_rfl) rfl
            have k12 := hk_.later 12 _ (by kernel_rfl) rfl
            have k15 := hk_.later 15 _ (by kernel_rfl) rfl
            clear hk_
            refine flow_plain rfl ?_
            exact gives_move rfl ⟨hM_, h2⟩
          refine allFrom_cons ?_ ?_
          · refine stepK_by (by decide) ?_
            intro f_ a_ w_ hM_ hk_
            have h17 : a_.eval (.tmp 17) = .int .i64 (j : Int) := hk_.old 17 (by kernel_rfl)
            have k10 := hk_.later 10 _ (by kernel_rfl) rfl
            have k11 := hk_.later 11 _ (by kernel_rfl) rfl
            have k12 := hk_.later 12 _ (by kernel_rfl) rfl
            have k15 := hk_.later 15 _ (by kernel_rfl) rfl
            clear hk_
            refine flow_plain rfl ?_
            exact gives_move rfl ⟨hM_, h17⟩
          refine allFrom_cons ?_ ?_
          · refine stepK_by (by decide) ?_
            intro f_ a_ w_ hM_ hk_
            have h110 : a_.eval (.tmp 110) = (.slice Ap pl cp) := hk_.got 7 110 _ (by kernel_rfl) rfl rfl
            have h111 : a_.eval (.tmp 111) = (.int .i64 (j : Int)) := hk_.got 8 111 _ (by kernel_rfl) rfl rfl
            have k10 := hk_.later 10 _ (by kernel_rfl) rfl
            have k11 := hk_.later 11 _ (by kernel_rfl) rfl
            have k12 := hk_.later 12 _ (by kernel_rfl) rfl
            have k15 := hk_.later 15 _ (by kernel_rfl) rfl
            clear hk_
            refine flow_plain rfl ?_
            refine gives_keep hM_ ?_
            unfold gives
            have hc_ : ∀ v, a_.eval (.const v) = v := fun _ => rfl
            have hn_ : ∀ f, a_.eval (.func f) = .func (.func f) #[] #[] := fun _ => rfl
            generalize a_.eval = ρ_ at *
            go_simp
            exact ⟨rfl, rfl⟩
          refine allFrom_cons ?_ ?_
          · intro f_ a_ w_ hM_ hk_
            have h103 : a_.eval (.tmp 103) = (.int .u64 (n : Int)) := hk_.got 0 103 _ (by kernel_rfl) rfl rfl
            have h104 : a_.eval (.tmp 104) = (.int .u64 (k : Int)) := hk_.got 1 104 _ (by kernel_rfl) rfl rfl
            have h105 : a_.eval (.tmp 105) = (.slice Aa a.length ca) := hk_.got 2 105 _ (by kernel_rfl) rfl rfl
            have h106 : a_.eval (.tmp 106) = (.slice Aa a.length ca) := hk_.got 3 106 _ (by kernel_rfl) rfl rfl
            have h109 : a_.eval (.tmp 109) = (.slice Ap j cp) := hk_.got 6 109 _ (by kernel_rfl) rfl rfl
            have h112 : a_.eval (.tmp 112) = (.slice Ap j cp) := hk_.got 9 112 _ (by kernel_rfl) rfl rfl
            have k10 : f_ 10 = none := hk_.un
            have k11 := hk_.later 11 _ (by kernel_rfl) rfl
            have k12 := hk_.later 12 _ (by kernel_rfl) rfl
            have k15 := hk_.later 15 _ (by kernel_rfl) rfl
            clear hk_
            simp only [List.map_cons, List.map_nil, k10, k11, k12, k15] at hM_
            simp only [List.map_cons, List.map_nil, upd_same, upd_ne f_ _ (show (11 : Nat) ≠ 10 by decide), upd_ne f_ _ (show (12 : Nat) ≠ 10 by decide), upd_ne f_ _ (show (14 : Nat) ≠ 10 by decide), upd_ne f_ _ (show (15 : Nat) ≠ 10 by decide), k11, k12, k15]
            refine flow_plain rfl ?_
            unfold gives
            have hc_ : ∀ v, a_.eval (.const v) = v := fun _ => rfl
            have hn_ : ∀ f, a_.eval (.func f) = .func (.func f) #[] #[] := fun _ => rfl
            generalize a_.eval = ρ_ at *
            go_simp
            exact (HPB.out w_ (bx_trans HB27.out (And.left hM_))).mono fun e w' hh => by obtain ⟨hb', c, e1, hv⟩ := hh; exact ⟨_, e1, (KCo.below hM_ hb').call hv, c, rfl⟩
          refine allFrom_cons ?_ ?_
          · intro f_ a_ w_ hM_ hk_
            have h113 := hk_.got 10 113 _ (by kernel_rfl) rfl rfl
            have k10 := hk_.val 10 113 _ (by kernel_rfl) rfl rfl
            have k11 : f_ 11 = none := hk_.un
            have k12 := hk_.later 12 _ (by kernel_rfl) rfl
            have k15 := hk_.later 15 _ (by kernel_rfl) rfl
            clear hk_
            simp only [List.map_cons, List.map_nil, k10, k11, k12, k15] at hM_
            simp only [List.map_cons, List.map_nil, upd_same, upd_ne f_ _ (show (10 : Nat) ≠ 11 by decide), upd_ne f_ _ (show (12 : Nat) ≠ 11 by decide), upd_ne f_ _ (show (14 : Nat) ≠ 11 by decide), upd_ne f_ _ (show (15 : Nat) ≠ 11 by decide), k10, k12, k15]
            refine flow_plain rfl ?_
            exact gives_move rfl ⟨KCo.move hM_, h113⟩
          refine allFrom_cons ?_ ?_
          · intro f_ a_ w_ hM_ hk_
            have h102 := hk_.got 11 102 _ (by kernel_rfl) rfl rfl
            have k10 := hk_.val 10 113 _ (by kernel_rfl) rfl rfl
            have k11 := hk_.val 11 102 _ (by kernel_rfl) rfl rfl
            have k12 : f_ 12 = none := hk_.un
            have k15 := hk_.later 15 _ (by kernel_rfl) rfl
            clear hk_
            simp only [List.map_cons, List.map_nil, k10, k11, k12, k15] at hM_
            simp only [List.map_cons, List.map_nil, upd_same, upd_ne f_ _ (show (10 : Nat) ≠ 12 by decide), upd_ne f_ _ (show (11 : Nat) ≠ 12 by decide), upd_ne f_ _ (show (14 : Nat) ≠ 12 by decide), upd_ne f_ _ (show (15 : Nat) ≠ 12 by decide), k10, k11, k15]
            refine flow_plain rfl ?_
            obtain ⟨c_, e_, hc_⟩ := KCo.at15 hM_
            exact gives_ext rfl e_ rfl ⟨KCo.ext hM_ hc_, trivial⟩
          refine allFrom_cons ?_ ?_
          · refine stepK_by (by decide) ?_
            intro f_ a_ w_ hM_ hk_
            have h102 := hk_.got 11 102 _ (by kernel_rfl) rfl rfl
            have k10 := hk_.val 10 113 _ (by kernel_rfl) rfl rfl
            have k11 := hk_.val 11 102 _ (by kernel_rfl) rfl rfl
            clear hk_
            refine flow_plain rfl ?_
            have hM := hM_
            simp only [List.map_cons, List.map_nil, k10, k11] at hM
            refine gives_keep hM_ ?_
            unfold gives
            have hc_ : ∀ v, a_.eval (.const v) = v := fun _ => rfl
            have hn_ : ∀ f, a_.eval (.func f) = .func (.func f) #[] #[] := fun _ => rfl
            obtain ⟨u_, h102⟩ := h102
            generalize a_.eval = ρ_ at *
            go_simp
            exact ⟨rfl, rfl⟩
          refine allFrom_cons ?_ ?_
          · intro f_ a_ w_ hM_ hk_
            have k14 : f_ 14 = none := hk_.un
            have k15 := hk_.later 15 _ (by kernel_rfl) rfl
            clear hk_
            simp only [List.map_cons, List.map_nil, k14, k15] at hM_
            simp only [List.map_cons, List.map_nil, upd_same, upd_ne f_ _ (show (10 : Nat) ≠ 14 by decide), upd_ne f_ _ (show (11 : Nat) ≠ 14 by decide), upd_ne f_ _ (show (12 : Nat) ≠ 14 by decide), upd_ne f_ _ (show (15 : Nat) ≠ 14 by decide), k15]
            refine flow_plain rfl ?_
            exact gives_val (gives_alloc_run _ rfl zeroCl) ⟨KCo.new hM_, trivial⟩
          refine allFrom_cons ?_ ?_
          · intro f_ a_ w_ hM_ hk_
            have k10 := hk_.val 10 113 _ (by kernel_rfl) rfl rfl
            have k11 := hk_.val 11 102 _ (by kernel_rfl) rfl rfl
            have k12 := hk_.val 12 114 _ (by kernel_rfl) rfl rfl
            have k14 := hk_.val 14 22 _ (by kernel_rfl) rfl rfl
            have k15 : f_ 15 = none := hk_.un
            clear hk_
            simp only [List.map_cons, List.map_nil, k10, k11, k12, k14, k15] at hM_
            simp only [List.map_cons, List.map_nil, upd_same, upd_ne f_ _ (show (10 : Nat) ≠ 15 by decide), upd_ne f_ _ (show (11 : Nat) ≠ 15 by decide), upd_ne f_ _ (show (12 : Nat) ≠ 15 by decide), upd_ne f_ _ (show (14 : Nat) ≠ 15 by decide), k10, k11, k12, k14]
            refine flow_plain rfl ?_
            obtain ⟨g_, cs_, e18, hg_, hbk, hsz_⟩ := KCo.at18 hM_
            obtain ⟨cs16, e16, hc16⟩ := KCo.at16 hM_
            have hM2 := hM_
            rw [e18] at hM2
            have ho16 := hc16.one
            refine gives_store_agg rfl e18 e16 (by rw [ho16.1]; exact aggCl nilC nilC) hbk (by rw [ho16.1, hsz_]; exact Nat.le_refl _) ho16.2 (fun w1 hp1 => ?_)
            rw [spl_whole (by rw [ho16.1, hsz_])] at hp1
            refine ⟨?_, trivial⟩
            rw [e18]
            exact KCo.store hM2 hc16 hg_ hbk hp1
          exact allFrom_nil
        intro f_ y_ w_ hM_ hf_ hd_
        have h103 : f_ 103 = (.int .u64 (n : Int)) := (hf_ 0 103 _ (by decide) rfl rfl).1
        have h104 : f_ 104 = (.int .u64 (k : Int)) := (hf_ 1 104 _ (by decide) rfl rfl).1
        have h105 : f_ 105 = (.slice Aa a.length ca) := (hf_ 2 105 _ (by decide) rfl rfl).1
        have h106 : f_ 106 = (.slice Aa a.length ca) := (hf_ 3 106 _ (by decide) rfl rfl).1
        have h107 : f_ 107 = (.slice Ap pl cp) := (hf_ 4 107 _ (by decide) rfl rfl).1
        have h108 : f_ 108 = (.int .i64 (j : Int)) := (hf_ 5 108 _ (by decide) rfl rfl).1
        have h109 : f_ 109 = (.slice Ap j cp) := (hf_ 6 109 _ (by decide) rfl rfl).1
        have h110 : f_ 110 = (.slice Ap pl cp) := (hf_ 7 110 _ (by decide) rfl rfl).1
        have h111 : f_ 111 = (.int .i64 (j : Int)) := (hf_ 8 111 _ (by decide) rfl rfl).1
        have h112 : f_ 112 = (.slice Ap j cp) := (hf_ 9 112 _ (by decide) rfl rfl).1
        have k10 := (hf_ 10 113 _ (by decide) rfl rfl).2
        have h113 := (hf_ 10 113 _ (by decide) rfl rfl).1
        have k11 := (hf_ 11 102 _ (by decide) rfl rfl).2
        have h102 := (hf_ 11 102 _ (by decide) rfl rfl).1
        have k12 := (hf_ 12 114 _ (by decide) rfl rfl).2
        have h115 : f_ 115 = (.bool false) := (hf_ 13 115 _ (by decide) rfl rfl).1
        have k14 := (hf_ 14 22 _ (by decide) rfl rfl).2
        obtain ⟨x15, k15⟩ := hd_ 15 (by decide)
        simp only [List.map_cons, List.map_nil, k10, k11, k12, k14, k15] at hM_
        simp only [mix, List.drop_succ_cons, List.drop_zero, h103, h104, h105, h106, h107, h108, h109, h110, h111, h112, h115]
        clear hf_ hd_ h103 h104 h105 h106 h107 h108 h109 h110 h111 h112 h115 k10 k11 k12 k14 k15
        obtain ⟨hb78, g22, cs2, e22, _, _, _⟩ := KCo.done hM_
        rw [e22]
        clear hM_ e22
        rename World => w8
        have hb28 := bx_trans HB27.out hb78
        have hb08 := bx_trans hb02 hb28
        have HRS := hid ((HRT.out.below hb08).more hb08.size)
        have HLM : Hid ((T.flatten.map cb).length = j * 32) := hid (by rw [List.length_map, hs_len HT32.out, HTL.out])
        have h63 : 0 + j ≤ maxLen := by unfold maxLen; omega
        have hby : (0 + j) * 32 ≤ 140737488355328 := by omega
        have hbs8 := hb28.size
        have HN8 := hid (nil_ownC w8 w2.heap.size tH 32)
        have HB28 := hid hb28
        clear hb78 hb28 hb08
        go_wp2_with (at_builtin; refine wpList_app rfl _ _ _ rfl _ rfl _ _ _ rfl elHs HN8.out HRS.out HLM.out (one_cb _) h63 hby hbs8 ?_; intro v24 w9 hown9 hg9 hat9)
        have hb29 := own_below HB28.out HN8.out hg9
        rw [Nat.zero_add, List.nil_append] at hown9
        obtain ⟨A24, c24, rfl, _, _, _⟩ := own_form hown9
        have HOWN9 := hid hown9
        clear hown9 hg9 hat9 h63 hby hbs8 HN8 HLM
        go_loopw [25] (fun v25 wx => ∃ (p : Nat) (O : List (List UInt8)), p ≤ j ∧ v25 = .int .i64 (p : Int) ∧ Hid (O.length = j) ∧ Hid (∀ x ∈ O, x.length = 32) ∧ wx.ownsRow w2.heap.size tH 32 (.slice A24 j c24) j (O.flatten.map cb) ∧ Below w2.heap.size w2 wx) (fun v25 _ => j - (intOf v25).toNat)
        case atStart => exact ⟨0, T, Nat.zero_le _, rfl, HTL, HT32, HOWN9.out, hb29⟩
        case round =>
          obtain ⟨p, O, hp, rfl, HOL, HO32, hown, hbx⟩ := hrel
          rename World => wx
          clear hb29 HOWN9
          by_cases hpj : p < j
          · have hj1 : (0 : Int) < (j : Int) := by omega
            have hjn0 : ¬ (j : Int) = 0 := by omega
            have hjn : ¬ j = 0 := by omega
            obtain ⟨r, hr⟩ : ∃ r : Nat, t0 % (j : Int) = (r : Int) := ⟨(t0 % (j : Int)).toNat, by have := Int.emod_nonneg t0 (b := (j : Int)) (by omega); omega⟩
            have hrt : t0.tmod (j : Int) = (r : Int) := by rw [Int.tmod_eq_emod_of_nonneg hbt.1]; exact hr
            by_cases hpr : p = r
            · subst hpr
              have hpe : ((p : Int) == (p : Int)) = true := by simp
              obtain ⟨gO, capO, eO, hgw, hgO, _, _⟩ := own_block hown (by omega)
              injection eO with eO _ eO2
              subst eO eO2
              have hpO : p < O.length := by rw [HOL.out]; exact hpj
              have hol := HO32.out _ (List.getElem_mem hpO)
              obtain ⟨c, hc⟩ : ∃ c : UInt8, c = O[p][31]'(by omega) := ⟨_, rfl⟩
              have hi31 : p * 32 + 31 < j * 32 := by omega
              have hcO : wx.cell? ⟨gO, p * 32 + 31, none⟩ = some (.int .u8 (c.toNat : Int)) := by
                rw [(own_setCell (i := p * 32 + 31) (.int .u8 0) hown hi31).2.2.2.2, List.getElem?_map, flat_get O HO32.out p 31 hpO (by decide), List.getElem?_eq_getElem (by omega), ← hc]
                rfl
              obtain ⟨y, hy⟩ := xor_cb c
              have HOWN := hid hown
              clear hown hc
              go_wp2_with fail
              refine wp_flow (by kernel_rfl) [0, 0, 3, 7, 15, 31, 3, 127, 255] 8 [false, false, false, false, false, false, false, false, false, false, false, false, false, false, false, false, false, false, false, false, false, false, false, false, false, false, false, false, false, false, false, false, false, false, false, false, false, false, false, false, false, false, false, false, false, false, false, false, false, false, false, false, false, false, false, false, false, false, false, false, false, false, false, false, false, false, false, false, false, false, false, false, false, false, false, false, false, false, false, false, false, false, false, false, false, false, false, false, false, false, false, false, false, false, false, false, false, false, false, false, false, false, false, false, false, false, false, false, false, false, false, false, false, false, false, false, false, false, false, false, false, false, false, false, false, false, false, false, false, false, false, false, true, true, true, true, true, true, true, true] (by kernel_rfl) (by decide) (by kernel_rfl) [FP.eq (.slice (some ⟨gO, 0, none⟩) j c24), FP.eq (.int .i64 (p : Int)), FP.eq (.pointer (some ⟨gO, p * 32, none⟩)), FP.eq (.pointer (some ⟨gO, p * 32 + 31, none⟩)), FP.eq (.int .u8 (c.toNat : Int)), FP.eq (.int .u8 (y.toNat : Int)), FP.eq (.pointer (some ⟨gO, p * 32, none⟩)), FP.eq (.pointer (some ⟨gO, p * 32 + 31, none⟩))] ?_ ?_
              · refine allFrom_cons ?_ ?_
                · intro a_ w_ hk_
                  have h24 : a_.eval (.tmp 24) = .slice (some ⟨gO, 0, none⟩) j c24 := hk_.old 24 (by kernel_rfl)
                  have hx_ := hk_.ext
                  clear hk_
                  refine flow_plain rfl ?_
                  exact gives_move rfl ⟨Below.refl _ _, h24⟩
                refine allFrom_cons ?_ ?_
                · intro a_ w_ hk_
                  have h25 : a_.eval (.tmp 25) = .int .i64 (p : Int) := hk_.old 25 (by kernel_rfl)
                  have hx_ := hk_.ext
                  clear hk_
                  refine flow_plain rfl ?_
                  exact gives_move rfl ⟨Below.refl _ _, h25⟩
                refine allFrom_cons ?_ ?_
                · intro a_ w_ hk_
                  have h132 : a_.eval (.tmp 132) = (.slice (some ⟨gO, 0, none⟩) j c24) := hk_.got 0 132 _ (by kernel_rfl) rfl rfl
                  have h133 : a_.eval (.tmp 133) = (.int .i64 (p : Int)) := hk_.got 1 133 _ (by kernel_rfl) rfl rfl
                  have hx_ := hk_.ext
                  clear hk_
                  refine flow_plain rfl ?_
                  unfold gives
                  have hc_ : ∀ v, a_.eval (.const v) = v := fun _ => rfl
                  have hn_ : ∀ f, a_.eval (.func f) = .func (.func f) #[] #[] := fun _ => rfl
                  generalize a_.eval = ρ_ at *
                  go_simp
                  exact ⟨Below.refl _ _, rfl⟩
                refine allFrom_cons ?_ ?_
                · intro a_ w_ hk_
                  have h134 : a_.eval (.tmp 134) = (.pointer (some ⟨gO, p * 32, none⟩)) := hk_.got 2 134 _ (by kernel_rfl) rfl rfl
                  have hx_ := hk_.ext
                  clear hk_
                  refine flow_plain rfl ?_
                  unfold gives
                  have hc_ : ∀ v, a_.eval (.const v) = v := fun _ => rfl
                  have hn_ : ∀ f, a_.eval (.func f) = .func (.func f) #[] #[] := fun _ => rfl
                  generalize a_.eval = ρ_ at *
                  go_simp
                  exact ⟨Below.refl _ _, rfl⟩
                refine allFrom_cons ?_ ?_
                · intro a_ w_ hk_
                  have h135 : a_.eval (.tmp 135) = (.pointer (some ⟨gO, p * 32 + 31, none⟩)) := hk_.got 3 135 _ (by kernel_rfl) rfl rfl
                  have hx_ := hk_.ext
                  clear hk_
                  refine flow_plain rfl ?_
                  unfold gives
                  have hc_ : ∀ v, a_.eval (.const v) = v := fun _ => rfl
                  have hn_ : ∀ f, a_.eval (.func f) = .func (.func f) #[] #[] := fun _ => rfl
                  have hcell := (hx_.cell (p := ⟨gO, p * 32 + 31, none⟩) hgO).trans hcO
                  generalize a_.eval = ρ_ at *
                  go_simp
                  exact ⟨Below.refl _ _, rfl⟩
                refine allFrom_cons ?_ ?_
                · intro a_ w_ hk_
                  have h136 : a_.eval (.tmp 136) = (.int .u8 (c.toNat : Int)) := hk_.got 4 136 _ (by kernel_rfl) rfl rfl
                  have hx_ := hk_.ext
                  clear hk_
                  refine flow_plain rfl ?_
                  unfold gives
                  have hc_ : ∀ v, a_.eval (.const v) = v := fun _ => rfl
                  have hn_ : ∀ f, a_.eval (.func f) = .func (.func f) #[] #[] := fun _ => rfl
                  generalize a_.eval = ρ_ at *
                  go_simp
                  exact ⟨Below.refl _ _, rfl⟩
                refine allFrom_cons ?_ ?_
                · intro a_ w_ hk_
                  have h132 : a_.eval (.tmp 132) = (.slice (some ⟨gO, 0, none⟩) j c24) := hk_.got 0 132 _ (by kernel_rfl) rfl rfl
                  have h133 : a_.eval (.tmp 133) = (.int .i64 (p : Int)) := hk_.got 1 133 _ (by kernel_rfl) rfl rfl
                  have hx_ := hk_.ext
                  clear hk_
                  refine flow_plain rfl ?_
                  unfold gives
                  have hc_ : ∀ v, a_.eval (.const v) = v := fun _ => rfl
                  have hn_ : ∀ f, a_.eval (.func f) = .func (.func f) #[] #[] := fun _ => rfl
                  generalize a_.eval = ρ_ at *
                  go_simp
                  exact ⟨Below.refl _ _, rfl⟩
                refine allFrom_cons ?_ ?_
                · intro a_ w_ hk_
                  have h138 : a_.eval (.tmp 138) = (.pointer (some ⟨gO, p * 32, none⟩)) := hk_.got 6 138 _ (by kernel_rfl) rfl rfl
                  have hx_ := hk_.ext
                  clear hk_
                  refine flow_plain rfl ?_
                  unfold gives
                  have hc_ : ∀ v, a_.eval (.const v) = v := fun _ => rfl
                  have hn_ : ∀ f, a_.eval (.func f) = .func (.func f) #[] #[] := fun _ => rfl
                  generalize a_.eval = ρ_ at *
                  go_simp
                  exact ⟨Below.refl _ _, rfl⟩
                exact allFrom_nil
              intro f_ w_ hx_ hf_
              have h132 : f_ 132 = (.slice (some ⟨gO, 0, none⟩) j c24) := hf_ 0 132 _ (by decide) rfl rfl
              have h133 : f_ 133 = (.int .i64 (p : Int)) := hf_ 1 133 _ (by decide) rfl rfl
              have h134 : f_ 134 = (.pointer (some ⟨gO, p * 32, none⟩)) := hf_ 2 134 _ (by decide) rfl rfl
              have h135 : f_ 135 = (.pointer (some ⟨gO, p * 32 + 31, none⟩)) := hf_ 3 135 _ (by decide) rfl rfl
              have h136 : f_ 136 = (.int .u8 (c.toNat : Int)) := hf_ 4 136 _ (by decide) rfl rfl
              have h137 : f_ 137 = (.int .u8 (y.toNat : Int)) := hf_ 5 137 _ (by decide) rfl rfl
              have h138 : f_ 138 = (.pointer (some ⟨gO, p * 32, none⟩)) := hf_ 6 138 _ (by decide) rfl rfl
              have h139 : f_ 139 = (.pointer (some ⟨gO, p * 32 + 31, none⟩)) := hf_ 7 139 _ (by decide) rfl rfl
              simp only [mix, List.drop_succ_cons, List.drop_zero, h132, h133, h134, h135, h136, h137, h138, h139]
              clear h132 h133 h134 h135 h136 h137 h138 h139
              clear hf_
              rename World => wy
              have hown2 := own_keep HOWN.out hx_
              have hby := bx_trans hbx hx_
              obtain ⟨hown3, ⟨cs3, hp3⟩, _, hf3, hc3⟩ := own_setCell (i := p * 32 + 31) (.int .u8 (y.toNat : Int)) hown2 hi31
              have hc3' := (hx_.cell (p := ⟨gO, p * 32 + 31, none⟩) hgO).trans hcO
              have hb3 := bx_put hby hp3 hgw
              rw [show (Value.int .u8 (y.toNat : Int)) = cb y from rfl, ← List.map_set, flat_set O HO32.out p 31 hpO (by decide)] at hown3
              have HO3 := hid hown3
              have HOL3 : Hid ((O.set p (O[p].set 31 y)).length = j) := hid (by rw [List.length_set]; exact HOL.out)
              have HOS3 := hid (set_32 HO32.out hpO (z := O[p].set 31 y) (by rw [List.length_set]; exact hol))
              have HB3 := hid hb3
              clear hown2 hown3 hp3 hc3 hb3 hby hx_ hcO HOWN hy
              go_wp2_with fail
              go_roundw
              case rel => exact ⟨p + 1, _, by omega, by go_num, HOL3, HOS3, HO3.out, HB3.out⟩
              case measure => simp [intOf]; omega
            · have hpe : ((p : Int) == (r : Int)) = false := by simp; omega
              have HOWN := hid hown
              clear hown
              go_wp2_with fail
              go_roundw
              case rel => exact ⟨p + 1, O, by omega, by go_num, HOL, HO32, HOWN.out, hbx⟩
              case measure => simp [intOf]; omega
          · have hpj2 : ¬ (p : Int) < (j : Int) := by omega
            have hrO := own_rd hown
            have HPX := hid (HPC.out wx hbx O HOL.out HO32.out A24 c24 hrO)
            rw [HTL.out, HOL.out] at HPX
            generalize isShown _ _ _ = is3 at HPX
            have HBX := hid hbx
            clear hown hrO hbx
            go_wp2_with fail
            refine HPX.out.mono ?_
            rintro e w10 ⟨hb10, v, rfl, c1, rfl, hc1⟩
            obtain ⟨cs1, ecs1⟩ : ∃ cs, c1 = .agg cs := by obtain ⟨va, vb, _, _, e, _⟩ := hc1; exact ⟨_, e⟩
            subst ecs1
            obtain ⟨hsz1, hoc⟩ := hc1.one
            have ha1 : AggT Tryd.prog tCl cs1.size := by rw [hsz1]; exact aggCl nilC nilC
            have hs1 : 0 + cs1.size ≤ (Value.agg #[nilC, nilC]).cells.size := by rw [hsz1]; exact Nat.le_refl _
            have hsp1 : spl (Value.agg #[nilC, nilC]).cells 0 cs1.toList = cs1 := spl_whole (by rw [hsz1]; rfl)
            have HC1 := hid hc1
            have hb210 := bx_trans HBX.out hb10
            clear hc1 HPX hb10
            go_wp2_with (first
              | ((with_reducible refine wpAtC ?_); refine wpList_alloc (w := w10) rfl _ rfl zeroCl ?_; intro g26 w11 hg26 hg26' hz26 hb11; simp only [Act.put, List.setIfInBounds_toArray, List.set_cons_succ, List.set_cons_zero])
              | ((with_reducible refine wpAtC ?_); refine wpList_store_agg rfl _ _ _ rfl _ _ rfl cs1 rfl ha1 hz26 hs1 hoc ?_; intro w12 hp12; simp only [Act.put]; rw [hsp1] at hp12))
            have hb1012 := bx_put hb11 hp12 hg26
            have hb212 := bx_trans hb210 hb1012
            have hc12 := HC1.out.below hb1012
            have hbk26 := hp12.blk
            obtain ⟨va, vb, ra, rb, e1, oa, ob, l1, l2, hB1⟩ := hc12
            injection e1 with e1
            subst e1
            obtain ⟨A5, d5, rfl, k5, r5⟩ := oa.rd
            obtain ⟨A6, d6, rfl, k6, r6⟩ := ob.rd
            have hb012 := bx_trans hb02 hb212
            have HK1 := hid (fun (W : World) (hb : Below w12.heap.size w12 W) => Check_any W (HL.out.below (bx_trans hb012 hb)) 1 (c := d5) (c' := d6) ((r5.below hb).more hb.size) (Nat.le_refl _) k5 (by omega) ((r6.below hb).more hb.size) (Nat.le_refl _) k6 (by omega))
            have HB012 := hid hb012
            clear oa ob r5 r6 k5 k6 l1 l2 hp12 hb11 hb1012 hb210 hb212 hz26 HC1 hsp1 hs1 ha1 hoc hsz1 hb012
            refine wp_hold (wp_region_lit ?_)
            cases is3 with
            | true =>
              rw [hB1 rfl] at HK1
              clear hB1
              refine wp_flowSE [0, 1, 3, 7, 15, 31, 63, 127, 255, 511, 1023] 11 [false, false, false, false, false, false, false, false, false, false, true, false, false, false, false, false, false, false, false, false, false, false, false, false, false, false, false, false, false, false, false, false, false, false, false, false, false, false, false, false, false, false, false, false, false, false, false, false, false, false, false, false, false, false, false, false, false, false, false, false, false, false, false, false, false, false, false, false, false, false, false, false, false, false, false, false, false, false, false, false, false, false, false, false, false, false, false, false, false, false, false, false, false, false, false, false, false, false, false, false, false, false, false, false, false, false, false, false, false, false, false, false, false, false, false, false, false, false, false, false, false, false, false, false, false, false, false, false, false, false, false, false, false, false, false, false, false, false, false, false, false, false, false, false, false, false, false, false, false, false, false, false, true, true, true, true, true, true, true, true, true, true] (by kernel_rfl) (by kernel_rfl) (by kernel_rfl) [FP.eq (.bool false), FP.eq (.bool true), FP.eq (.bool true), FP.eq (.bool true), FP.eq (.bool false), FP.eq (.bool false), FP.eq (.agg #[.slice A5 ra.length d5, .slice A6 rb.length d6]), FP.eq (.bool true), FP.eq (.bool true), FP.eq (.bool true), FP.eq (.bool true)] ?_ ?_
              · refine allFrom_cons ?_ ?_
                · intro a_ w_ hk_
                  have h23 : a_.eval (.tmp 23) = .bool false := hk_.old 23 (by kernel_rfl)
                  have hx_ := hk_.ext
                  clear hk_
                  refine flow_plain rfl ?_
                  exact gives_move rfl ⟨Below.refl _ _, h23⟩
                refine allFrom_cons ?_ ?_
                · intro a_ w_ hk_
                  have h152 : a_.eval (.tmp 152) = (.bool false) := hk_.got 0 152 _ (by kernel_rfl) rfl rfl
                  have hx_ := hk_.ext
                  clear hk_
                  refine flow_plain rfl ?_
                  unfold gives
                  have hc_ : ∀ v, a_.eval (.const v) = v := fun _ => rfl
                  have hn_ : ∀ f, a_.eval (.func f) = .func (.func f) #[] #[] := fun _ => rfl
                  generalize a_.eval = ρ_ at *
                  go_simp
                  exact ⟨Below.refl _ _, rfl⟩
                refine allFrom_cons ?_ ?_
                · intro a_ w_ hk_
                  have h153 : a_.eval (.tmp 153) = (.bool true) := hk_.got 1 153 _ (by kernel_rfl) rfl rfl
                  have hx_ := hk_.ext
                  clear hk_
                  refine flow_plain rfl ?_
                  exact gives_move rfl ⟨Below.refl _ _, h153⟩
                refine allFrom_cons ?_ ?_
                · intro a_ w_ hk_
                  have h27 : a_.eval (.tmp 27) = .bool true := hk_.old 27 (by kernel_rfl)
                  have hg_ : a_.eval (.tmp 154) = .bool true := hk_.got 2 154 _ (by kernel_rfl) rfl rfl
                  have hy_ := hk_.want 2 _ 154 true rfl rfl hg_
                  have hx_ := hk_.ext
                  clear hk_
                  refine flow_want rfl hy_ ?_
                  exact gives_move rfl ⟨Below.refl _ _, h27⟩
                refine allFrom_cons ?_ ?_
                · intro a_ w_ hk_
                  have h155 : a_.eval (.tmp 155) = (.bool true) := hk_.got 3 155 _ (by kernel_rfl) rfl rfl
                  have hg_ : a_.eval (.tmp 154) = .bool true := hk_.got 2 154 _ (by kernel_rfl) rfl rfl
                  have hy_ := hk_.want 2 _ 154 true rfl rfl hg_
                  have hx_ := hk_.ext
                  clear hk_
                  refine flow_want rfl hy_ ?_
                  unfold gives
                  have hc_ : ∀ v, a_.eval (.const v) = v := fun _ => rfl
                  have hn_ : ∀ f, a_.eval (.func f) = .func (.func f) #[] #[] := fun _ => rfl
                  clear hy_ hg_
                  generalize a_.eval = ρ_ at *
                  go_simp
                  exact ⟨Below.refl _ _, rfl⟩
                refine allFrom_cons ?_ ?_
                · intro a_ w_ hk_
                  have h156 : a_.eval (.tmp 156) = (.bool false) := hk_.got 4 156 _ (by kernel_rfl) rfl rfl
                  have hg_ : a_.eval (.tmp 154) = .bool true := hk_.got 2 154 _ (by kernel_rfl) rfl rfl
                  have hy_ := hk_.want 2 _ 154 true rfl rfl hg_
                  have hx_ := hk_.ext
                  clear hk_
                  refine flow_want rfl hy_ ?_
                  exact gives_move rfl ⟨Below.refl _ _, h156⟩
                refine allFrom_cons ?_ ?_
                · intro a_ w_ hk_
                  have h26 : a_.eval (.tmp 26) = .pointer (some ⟨g26, 0, none⟩) := hk_.old 26 (by kernel_rfl)
                  have hg_ : a_.eval (.tmp 157) = .bool false := hk_.got 5 157 _ (by kernel_rfl) rfl rfl
                  have hy_ := hk_.want 5 _ 157 false rfl rfl hg_
                  have hx_ := hk_.ext
                  clear hk_
                  refine flow_want rfl hy_ ?_
                  exact gives_ldC rfl h26 (aggCl _ _) (blk_cells (hbk26.below hx_ hbk26.lt)) ⟨Below.refl _ _, rfl⟩
                refine allFrom_cons ?_ ?_
                · intro a_ w_ hk_
                  have h158 : a_.eval (.tmp 158) = (.agg #[.slice A5 ra.length d5, .slice A6 rb.length d6]) := hk_.got 6 158 _ (by kernel_rfl) rfl rfl
                  have hg_ : a_.eval (.tmp 157) = .bool false := hk_.got 5 157 _ (by kernel_rfl) rfl rfl
                  have hy_ := hk_.want 5 _ 157 false rfl rfl hg_
                  have hx_ := hk_.ext
                  clear hk_
                  refine flow_want rfl hy_ ?_
                  unfold gives
                  have hc_ : ∀ v, a_.eval (.const v) = v := fun _ => rfl
                  have hn_ : ∀ f, a_.eval (.func f) = .func (.func f) #[] #[] := fun _ => rfl
                  clear hy_ hg_
                  generalize a_.eval = ρ_ at *
                  go_simp
                  exact (HK1.out w_ hx_).mono fun e w' hh => ⟨_, hh.1, hh.2, rfl⟩
                refine allFrom_cons ?_ ?_
                · intro a_ w_ hk_
                  have h157 : a_.eval (.tmp 157) = (.bool false) := hk_.got 5 157 _ (by kernel_rfl) rfl rfl
                  have h159 : a_.eval (.tmp 159) = (.bool true) := hk_.got 7 159 _ (by kernel_rfl) rfl rfl
                  have hg_ : a_.eval (.tmp 154) = .bool true := hk_.got 2 154 _ (by kernel_rfl) rfl rfl
                  have hy_ := hk_.want 2 _ 154 true rfl rfl hg_
                  have hx_ := hk_.ext
                  clear hk_
                  refine flow_want rfl hy_ ?_
                  exact gives_pick rfl h157 ⟨Below.refl _ _, h159⟩
                refine allFrom_cons ?_ ?_
                · intro a_ w_ hk_
                  have h154 : a_.eval (.tmp 154) = (.bool true) := hk_.got 2 154 _ (by kernel_rfl) rfl rfl
                  have h160 : a_.eval (.tmp 160) = (.bool true) := hk_.got 8 160 _ (by kernel_rfl) rfl rfl
                  have hx_ := hk_.ext
                  clear hk_
                  refine flow_plain rfl ?_
                  exact gives_pick rfl h154 ⟨Below.refl _ _, h160⟩
                refine allFrom_cons ?_ ?_
                · intro a_ w_ hk_
                  have h161 : a_.eval (.tmp 161) = (.bool true) := hk_.got 9 161 _ (by kernel_rfl) rfl rfl
                  have hx_ := hk_.ext
                  clear hk_
                  refine flow_plain rfl ?_
                  exact gives_assign rfl ⟨Below.refl _ _, h161⟩
                exact allFrom_nil
              intro f_ w_ hx_ hf_
              have h152 : f_ 152 = (.bool false) := hf_ 0 152 _ (by decide) rfl rfl
              have h153 : f_ 153 = (.bool true) := hf_ 1 153 _ (by decide) rfl rfl
              have h154 : f_ 154 = (.bool true) := hf_ 2 154 _ (by decide) rfl rfl
              have h155 : f_ 155 = (.bool true) := hf_ 3 155 _ (by decide) rfl rfl
              have h156 : f_ 156 = (.bool false) := hf_ 4 156 _ (by decide) rfl rfl
              have h157 : f_ 157 = (.bool false) := hf_ 5 157 _ (by decide) rfl rfl
              have h158 : f_ 158 = (.agg #[.slice A5 ra.length d5, .slice A6 rb.length d6]) := hf_ 6 158 _ (by decide) rfl rfl
              have h159 : f_ 159 = (.bool true) := hf_ 7 159 _ (by decide) rfl rfl
              have h160 : f_ 160 = (.bool true) := hf_ 8 160 _ (by decide) rfl rfl
              have h161 : f_ 161 = (.bool true) := hf_ 9 161 _ (by decide) rfl rfl
              have h10 : f_ 10 = (.bool true) := hf_ 10 10 _ (by decide) rfl rfl
              simp only [mix, h152, h153, h154, h155, h156, h157, h158, h159, h160, h161, h10]
              clear h152 h153 h154 h155 h156 h157 h158 h159 h160 h161 h10
              clear hf_
              have hbf := bx_trans HB012.out hx_
              clear hx_
              go_wp2_with fail
              go_ret
              exact ⟨rfl, hbf⟩
            | false =>
              clear hB1
              refine wp_flowSE [0, 1, 3, 7, 15, 31, 63, 127, 255, 511, 1023] 11 [false, false, false, false, false, false, false, false, false, false, true, false, false, false, false, false, false, false, false, false, false, false, false, false, false, false, false, false, false, false, false, false, false, false, false, false, false, false, false, false, false, false, false, false, false, false, false, false, false, false, false, false, false, false, false, false, false, false, false, false, false, false, false, false, false, false, false, false, false, false, false, false, false, false, false, false, false, false, false, false, false, false, false, false, false, false, false, false, false, false, false, false, false, false, false, false, false, false, false, false, false, false, false, false, false, false, false, false, false, false, false, false, false, false, false, false, false, false, false, false, false, false, false, false, false, false, false, false, false, false, false, false, false, false, false, false, false, false, false, false, false, false, false, false, false, false, false, false, false, false, false, false, true, true, true, true, true, true, true, true, true, true] (by kernel_rfl) (by kernel_rfl) (by kernel_rfl) [FP.eq (.bool false), FP.eq (.bool true), FP.eq (.bool true), FP.eq (.bool false), FP.eq (.bool true), FP.eq (.bool true), FP.any, FP.any, FP.eq (.bool true), FP.eq (.bool true), FP.eq (.bool true)] ?_ ?_
              · refine allFrom_cons ?_ ?_
                · intro a_ w_ hk_
                  have h23 : a_.eval (.tmp 23) = .bool false := hk_.old 23 (by kernel_rfl)
                  have hx_ := hk_.ext
                  clear hk_
                  refine flow_plain rfl ?_
                  exact gives_move rfl ⟨Below.refl _ _, h23⟩
                refine allFrom_cons ?_ ?_
                · intro a_ w_ hk_
                  have h152 : a_.eval (.tmp 152) = (.bool false) := hk_.got 0 152 _ (by kernel_rfl) rfl rfl
                  have hx_ := hk_.ext
                  clear hk_
                  refine flow_plain rfl ?_
                  unfold gives
                  have hc_ : ∀ v, a_.eval (.const v) = v := fun _ => rfl
                  have hn_ : ∀ f, a_.eval (.func f) = .func (.func f) #[] #[] := fun _ => rfl
                  generalize a_.eval = ρ_ at *
                  go_simp
                  exact ⟨Below.refl _ _, rfl⟩
                refine allFrom_cons ?_ ?_
                · intro a_ w_ hk_
                  have h153 : a_.eval (.tmp 153) = (.bool true) := hk_.got 1 153 _ (by kernel_rfl) rfl rfl
                  have hx_ := hk_.ext
                  clear hk_
                  refine flow_plain rfl ?_
                  exact gives_move rfl ⟨Below.refl _ _, h153⟩
                refine allFrom_cons ?_ ?_
                · intro a_ w_ hk_
                  have h27 : a_.eval (.tmp 27) = .bool false := hk_.old 27 (by kernel_rfl)
                  have hg_ : a_.eval (.tmp 154) = .bool true := hk_.got 2 154 _ (by kernel_rfl) rfl rfl
                  have hy_ := hk_.want 2 _ 154 true rfl rfl hg_
                  have hx_ := hk_.ext
                  clear hk_
                  refine flow_want rfl hy_ ?_
                  exact gives_move rfl ⟨Below.refl _ _, h27⟩
                refine allFrom_cons ?_ ?_
                · intro a_ w_ hk_
                  have h155 : a_.eval (.tmp 155) = (.bool false) := hk_.got 3 155 _ (by kernel_rfl) rfl rfl
                  have hg_ : a_.eval (.tmp 154) = .bool true := hk_.got 2 154 _ (by kernel_rfl) rfl rfl
                  have hy_ := hk_.want 2 _ 154 true rfl rfl hg_
                  have hx_ := hk_.ext
                  clear hk_
                  refine flow_want rfl hy_ ?_
                  unfold gives
                  have hc_ : ∀ v, a_.eval (.const v) = v := fun _ => rfl
                  have hn_ : ∀ f, a_.eval (.func f) = .func (.func f) #[] #[] := fun _ => rfl
                  clear hy_ hg_
                  generalize a_.eval = ρ_ at *
                  go_simp
                  exact ⟨Below.refl _ _, rfl⟩
                refine allFrom_cons ?_ ?_
                · intro a_ w_ hk_
                  have h156 : a_.eval (.tmp 156) = (.bool true) := hk_.got 4 156 _ (by kernel_rfl) rfl rfl
                  have hg_ : a_.eval (.tmp 154) = .bool true := hk_.got 2 154 _ (by kernel_rfl) rfl rfl
                  have hy_ := hk_.want 2 _ 154 true rfl rfl hg_
                  have hx_ := hk_.ext
                  clear hk_
                  refine flow_want rfl hy_ ?_
                  exact gives_move rfl ⟨Below.refl _ _, h156⟩
                refine allFrom_cons ?_ ?_
                · intro a_ w_ hk_
                  have h26 : a_.eval (.tmp 26) = .pointer (some ⟨g26, 0, none⟩) := hk_.old 26 (by kernel_rfl)
                  have hg_ : a_.eval (.tmp 157) = .bool true := hk_.got 5 157 _ (by kernel_rfl) rfl rfl
                  have hy_ := hk_.want 5 _ 157 true rfl rfl hg_
                  have hx_ := hk_.ext
                  clear hk_
                  exact flow_skip rfl hy_ (by decide) trivial
                refine allFrom_cons ?_ ?_
                · intro a_ w_ hk_
                  have hg_ : a_.eval (.tmp 157) = .bool true := hk_.got 5 157 _ (by kernel_rfl) rfl rfl
                  have hy_ := hk_.want 5 _ 157 true rfl rfl hg_
                  have hx_ := hk_.ext
                  clear hk_
                  exact flow_skip rfl hy_ (by decide) trivial
                refine allFrom_cons ?_ ?_
                · intro a_ w_ hk_
                  have h157 : a_.eval (.tmp 157) = (.bool true) := hk_.got 5 157 _ (by kernel_rfl) rfl rfl
                  have hg_ : a_.eval (.tmp 154) = .bool true := hk_.got 2 154 _ (by kernel_rfl) rfl rfl
                  have hy_ := hk_.want 2 _ 154 true rfl rfl hg_
                  have hx_ := hk_.ext
                  clear hk_
                  refine flow_want rfl hy_ ?_
                  exact gives_pick rfl h157 ⟨Below.refl _ _, rfl⟩
                refine allFrom_cons ?_ ?_
                · intro a_ w_ hk_
                  have h154 : a_.eval (.tmp 154) = (.bool true) := hk_.got 2 154 _ (by kernel_rfl) rfl rfl
                  have h160 : a_.eval (.tmp 160) = (.bool true) := hk_.got 8 160 _ (by kernel_rfl) rfl rfl
                  have hx_ := hk_.ext
                  clear hk_
                  refine flow_plain rfl ?_
                  exact gives_pick rfl h154 ⟨Below.refl _ _, h160⟩
                refine allFrom_cons ?_ ?_
                · intro a_ w_ hk_
                  have h161 : a_.eval (.tmp 161) = (.bool true) := hk_.got 9 161 _ (by kernel_rfl) rfl rfl
                  have hx_ := hk_.ext
                  clear hk_
                  refine flow_plain rfl ?_
                  exact gives_assign rfl ⟨Below.refl _ _, h161⟩
                exact allFrom_nil
              intro f_ w_ hx_ hf_
              have h152 : f_ 152 = (.bool false) := hf_ 0 152 _ (by decide) rfl rfl
              have h153 : f_ 153 = (.bool true) := hf_ 1 153 _ (by decide) rfl rfl
              have h154 : f_ 154 = (.bool true) := hf_ 2 154 _ (by decide) rfl rfl
              have h155 : f_ 155 = (.bool false) := hf_ 3 155 _ (by decide) rfl rfl
              have h156 : f_ 156 = (.bool true) := hf_ 4 156 _ (by decide) rfl rfl
              have h157 : f_ 157 = (.bool true) := hf_ 5 157 _ (by decide) rfl rfl
              have h160 : f_ 160 = (.bool true) := hf_ 8 160 _ (by decide) rfl rfl
              have h161 : f_ 161 = (.bool true) := hf_ 9 161 _ (by decide) rfl rfl
              have h10 : f_ 10 = (.bool true) := hf_ 10 10 _ (by decide) rfl rfl
              simp only [mix, h152, h153, h154, h155, h156, h157, h160, h161, h10]
              clear h152 h153 h154 h155 h156 h157 h160 h161 h10
              clear hf_
              have hbf := bx_trans HB012.out hx_
              clear hx_
              go_wp2_with fail
              go_ret
              exact ⟨rfl, hbf⟩
      · have hE1 : (E != 0) = true := by simpa using hE0
        clear hE0
        go_wp2_with (first
          | ((with_reducible refine wpAtC ?_); refine wpList_alloc (w := w3) rfl _ rfl zeroH ?_; intro g18 w4 hg18 hg18' hz18 hb4; simp only [Act.put, List.setIfInBounds_toArray, List.set_cons_succ, List.set_cons_zero])
          | ((with_reducible refine wpAtC ?_); refine wpList_store_agg rfl _ _ _ rfl _ _ rfl (H.map cb).toArray rfl (aggHS hHl) hz18 (szH hHl) (one_cbA _) ?_; intro w5 hp5; simp only [Act.put]))
        have hb35 := bx_put hb4 hp5 hg18
        have hb25 := hbr.trans ((bx_trans hb3 hb35).mono hbr.size)
        clear hb4 hz18 hp5 hb35 hb3 hbr hbwr
        go_roundw
        case rel => exact ⟨j + 1, by omega, by go_num, hb25⟩
        case measure => simp [intOf]; omega
    · have hle2 : ¬ (j : Int) ≤ (pl : Int) := by omega
      have hbf := bx_trans hb02 hbr
      go_wp2_with fail
      go_ret
      exact ⟨rfl, hbf⟩
end Go.Proofs.YtgaefejblmnklaaDoor
