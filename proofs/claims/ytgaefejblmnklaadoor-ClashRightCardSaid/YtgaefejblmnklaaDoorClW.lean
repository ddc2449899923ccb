
/- ClashRight: its walk. -/
import Derived.Test.YtgaefejblmnklaaDoorClV
namespace Go.Proofs.YtgaefejblmnklaaDoor
open Go.RowKit
set_option linter.unusedVariables false
set_option maxRecDepth 100000 in
set_option maxHeartbeats 8000000 in
theorem ClashRight_walk (w : World) (hL : Laid w) (wi : Int) (hwi : (Lit.int .u8 wi).wf = true) (s0 : Int) (hs0 : (Lit.int .u64 s0).wf = true) (i0 : Int) (hi0 : (Lit.int .u64 i0).wf = true)
    (Aa : Option Addr) (ca : Nat) (a : List UInt8) (hca : a.length ≤ ca) (hma : ca ≤ maxLen) (hra : Rd w w.heap.size Aa (a.map cb)) (Ab : Option Addr) (cc : Nat) (b : List UInt8) (hcb : b.length ≤ cc) (hmb : cc ≤ maxLen) (hrb : Rd w w.heap.size Ab (b.map cb))
    (Ap : Option Addr) (cp : Nat) (P : List (List UInt8)) (hcp : P.length ≤ cp) (hmp : cp ≤ maxLen) (h32 : ∀ x ∈ P, x.length = 32) (hrp : Rd w w.heap.size Ap (P.flatten.map cb)) (Aq : Option Addr) (cq : Nat) (Q : List (List UInt8)) (hcq : Q.length ≤ cq) (hmq : cq ≤ maxLen) (h32' : ∀ x ∈ Q, x.length = 32) (hrq : Rd w w.heap.size Aq (Q.flatten.map cb))
    (m0 : Int) (hm0 : (Lit.int .u64 m0).wf = true) (x : List UInt8) (hx : x.length = 32) (y : List UInt8) (hy : y.length = 32) :
    Calls Tryd.prog 5 #[.int .u8 wi, .int .u64 s0, .int .u64 i0, .slice Aa a.length ca, .slice Ab b.length cc, .slice Ap P.length cp, .slice Aq Q.length cq, .int .u64 m0, .agg (x.map cb).toArray, .agg (y.map cb).toArray] w fun e w' => e = .returned (.bool true) ∧ Below w.heap.size w w' := by
  have hbs := bounds_u64 hs0
  have hbi := bounds_u64 hi0
  have hbm := bounds_u64 hm0
  have hbw := bounds_u8 hwi
  obtain ⟨s, rfl⟩ := Int.eq_ofNat_of_zero_le hbs.1
  obtain ⟨i, rfl⟩ := Int.eq_ofNat_of_zero_le hbi.1
  obtain ⟨m, rfl⟩ := Int.eq_ofNat_of_zero_le hbm.1
  have hsz : s < 18446744073709551616 := by omega
  have hmz : m < 18446744073709551616 := by omega
  unfold maxLen at hmp hmq
  obtain ⟨pl, hpl⟩ : ∃ pl, pl = P.length := ⟨_, rfl⟩
  obtain ⟨ql, hql⟩ : ∃ ql, ql = Q.length := ⟨_, rfl⟩
  rw [← hpl] at hcp ⊢
  rw [← hql] at hcq ⊢
  have HL := hid hL
  have HRA := hid hra
  have HRB := hid hrb
  have HRP := hid hrp
  have HRQ := hid hrq
  have H32 := hid h32
  have H32' := hid h32'
  have HPL := hid hpl
  have HQL := hid hql
  have HX := hid hx
  have HY := hid hy
  have hk80 : Blk ((w.alloc (.cells (x.map cb).toArray tH)).alloc (.cells (y.map cb).toArray tH)) w.heap.size tH (x.map cb).toArray := (Blk.new w _ _).alloc _
  have hk90 : Blk ((w.alloc (.cells (x.map cb).toArray tH)).alloc (.cells (y.map cb).toArray tH)) (w.heap.size + 1) tH (y.map cb).toArray := by
    have := Blk.new (w.alloc (.cells (x.map cb).toArray tH)) tH (y.map cb).toArray
    rwa [World.size_alloc] at this
  have hb0 : Below w.heap.size w ((w.alloc (.cells (x.map cb).toArray tH)).alloc (.cells (y.map cb).toArray tH)) := bx_alloc (bx_alloc (Below.refl _ _) _) _
  clear hL hra hrb hrp hrq h32 h32' hpl hql hs0 hi0 hm0 hwi hx hy hma hmb
  go_enter Tryd.func5, Tryd.ntmps5
  rw [hold 9]
  go_wp2_with fail
  refine (clAwake _ (HL.out.below hb0)).mono ?_
  rintro e w1 ⟨rfl, hb1⟩
  have hb01 := bx_trans hb0 hb1
  have hk81 := hk80.below hb1 hk80.lt
  have hk91 := hk90.below hb1 hk90.lt
  clear hk80 hk90 hb0 hb1
  by_cases g1 : 60 < a.length
  · go_wp2_with fail
    go_ret
    exact ⟨rfl, hb01⟩
  by_cases g2 : 60 < b.length
  · go_wp2_with fail
    go_ret
    exact ⟨rfl, hb01⟩
  by_cases g3 : 66 < pl
  · go_wp2_with fail
    go_ret
    exact ⟨rfl, hb01⟩
  by_cases g4 : 66 < ql
  · go_wp2_with fail
    go_ret
    exact ⟨rfl, hb01⟩
  have HP := hid (fun (n : Int) => Paths_any w1 (HL.out.below hb01) n (size := s) (i := i) hsz (ca := ca) ((HRA.out.below hb01).more hb01.size) hca (by omega) (cc := cc) ((HRB.out.below hb01).more hb01.size) hcb (by omega) (cp := cp) (P := P) HPL.out.symm H32.out ((HRP.out.below hb01).more hb01.size) (by omega) (cq := cq) (Q := Q) HQL.out.symm H32'.out ((HRQ.out.below hb01).more hb01.size) (by omega))
  have ga : a.length ≤ 60 := by omega
  have gb : b.length ≤ 60 := by omega
  have GA := hid ga
  have GB := hid gb
  go_wp2_with fail
  refine (HP.out (wi % 4)).mono ?_
  rintro e w2 hs2
  rw [HPL.out, HQL.out] at hs2
  have hsp := paths_at GA.out GB.out H32.out H32'.out hs2
  clear hs2
  generalize isShown _ (rowsR (wi % 4) s i a P) (rowsR (wi % 4) s i b Q) = is1 at hsp
  obtain ⟨hb2, v, rfl, c1, rfl, hc1⟩ := hsp
  obtain ⟨cs1, ecs1⟩ : ∃ cs, c1 = .agg cs := by obtain ⟨va, vb, _, _, e, _⟩ := hc1; exact ⟨_, e⟩
  subst ecs1
  obtain ⟨hsz1, hoc⟩ := hc1.one
  have hb02 := bx_trans hb01 hb2
  have hk82 := hk81.below hb2 hk81.lt
  have hk92 := hk91.below hb2 hk91.lt
  have ha1 : AggT Tryd.prog tCl cs1.size := by rw [hsz1]; exact aggCl nilC nilC
  have hs1 : 0 + cs1.size ≤ (Value.agg #[nilC, nilC]).cells.size := by rw [hsz1]; exact Nat.le_refl _
  have hsp1 : spl (Value.agg #[nilC, nilC]).cells 0 cs1.toList = cs1 := spl_whole (by rw [hsz1]; rfl)
  have HC1A := hid hc1
  clear hc1 HP hk81 hk91 hb01 hb2
  go_wp2_with (first
    | ((with_reducible refine wpAtC ?_); refine wpList_alloc (w := w2) rfl _ rfl zeroCl ?_; intro g23 w3 hg23 hg23' hz23 hb3; simp only [Act.put, List.setIfInBounds_toArray, List.set_cons_succ, List.set_cons_zero])
    | ((with_reducible refine wpAtC ?_); refine wpList_store_agg rfl _ _ _ rfl _ _ rfl cs1 rfl ha1 hz23 hs1 hoc ?_; intro w4 hp4; simp only [Act.put]; rw [hsp1] at hp4))
  have hb24 := bx_put hb3 hp4 hg23
  have hb04 := bx_trans hb02 hb24
  have hk84 := hk82.below hb24 hk82.lt
  have hk94 := hk92.below hb24 hk92.lt
  have hc4 := hp4.blk
  have HC1B := hid (HC1A.out.below hb24)
  have hs24 := hb04.size
  clear hk82 hk92 HC1A hb3 hp4 hz23 hb24 hb02 hs1 hsp1 ha1 hoc
  have hx := HX.out
  have hy := HY.out
  obtain ⟨X, hXe⟩ : ∃ X, X = cutL (wideN (wi % 4)) x := ⟨_, rfl⟩
  obtain ⟨Y, hYe⟩ : ∃ Y, Y = cutL (wideN (wi % 4)) y := ⟨_, rfl⟩
  have hXl : X.length = 32 := by rw [hXe]; exact cutL_len _ _ hx
  have hYl : Y.length = 32 := by rw [hYe]; exact cutL_len _ _ hy
  have HC1 := hid (fun W => Cut_any W (wi % 4) hx)
  have HC2 := hid (fun W => Cut_any W (wi % 4) hy)
  rw [← hXe] at HC1
  rw [← hYe] at HC2
  have HCH := hid (fun (W : World) (hb : Below w.heap.size w W) => (Chains_any W (HL.out.below hb) (wi % 4) hmz hsz hXl hYl (P := P) (p := P.length) (cp := cp) rfl H32.out ((HRP.out.below hb).more hb.size) (by rw [← HPL.out]; omega) (by omega) (by rw [← HPL.out]; omega) (Q := Q) (q := Q.length) (cq := cq) rfl H32'.out ((HRQ.out.below hb).more hb.size) (by rw [← HQL.out]; omega) (by omega) (by rw [← HQL.out]; omega)).mono fun e w' h => chains_at hXl hYl H32.out H32'.out h)
  rw [← HPL.out, ← HQL.out] at HCH
  generalize isShown _ _ _ = is2 at HCH
  have hax := aggHL hx
  have hay := aggHL hy
  clear hXe hYe hcp hcq hmp hmq hca hcb
  have HKA : Hid (∀ W, Below w4.heap.size w4 W → Blk W w.heap.size tH (x.map cb).toArray) := hid (fun W hb => hk84.below hb hk84.lt)
  have HKB : Hid (∀ W, Below w4.heap.size w4 W → Blk W (w.heap.size + 1) tH (y.map cb).toArray) := hid (fun W hb => hk94.below hb hk94.lt)
  have HB04 := hid hb04
  refine wp_flowK (by kernel_rfl) [0, 0, 0, 0, 12, 30, 0, 0, 0, 412, 988, 0, 0, 0, 16383, 32767, 65535, 65535, 0, 393215, 1048575] 20 [false, false, false, false, false, false, false, false, false, false, false, false, false, false, false, false, false, false, false, false, false, false, false, false, false, true, false, false, false, false, false, false, false, false, false, false, false, false, false, false, false, false, false, false, false, false, false, false, false, false, false, false, false, false, false, false, false, false, false, false, false, false, true, true, true, true, true, true, true, true, true, true, true, true, true, true, true, true, true, true] (by kernel_rfl) (by decide) (by kernel_rfl) [KP.eq (.int .i64 (wi % 4)), KP.eq (.int .u64 (m : Int)), KP.eq (.int .i64 (wi % 4)), KP.eq (.agg (x.map cb).toArray), KP.eq (.agg (X.map cb).toArray), KP.eq (.agg (kcell m X).toArray), KP.eq (.int .u64 (m : Int)), KP.eq (.int .i64 (wi % 4)), KP.eq (.agg (y.map cb).toArray), KP.eq (.agg (Y.map cb).toArray), KP.eq (.agg (kcell m Y).toArray), KP.eq (.int .u64 (s : Int)), KP.eq (.slice Ap pl cp), KP.eq (.slice Aq ql cq), KP.shown is2, KP.shown is2, KP.any, KP.eq (.bool is2), KP.any, KP.any] [4, 9, 14, 15, 16, 18, 19] (fun ks W => match ks with | [_, _, p, q, r, t, u] => KCl w4 (wi % 4) is2 [p, q, r, t, u] W | _ => False) ?_ ?_ ?_
  · simp only [List.map_cons, List.map_nil]
    exact KCl.start
  · refine allFrom_cons ?_ ?_
    · refine stepK_by (by decide) ?_
      intro f_ a_ w_ hM_ hk_
      have h22 : a_.eval (.tmp 22) = .int .i64 (wi % 4) := hk_.old 22 (by kernel_rfl)
      have k14 := hk_.later 14 _ (by kernel_rfl) rfl
      have k15 := hk_.later 15 _ (by kernel_rfl) rfl
      have k16 := hk_.later 16 _ (by kernel_rfl) rfl
      have k19 := hk_.later 19 _ (by kernel_rfl) rfl
      clear hk_
      refine flow_plain rfl ?_
      exact gives_move rfl ⟨hM_, h22⟩
    refine allFrom_cons ?_ ?_
    · refine stepK_by (by decide) ?_
      intro f_ a_ w_ hM_ hk_
      have h7 : a_.eval (.tmp 7) = .int .u64 (m : Int) := hk_.old 7 (by kernel_rfl)
      have k14 := hk_.later 14 _ (by kernel_rfl) rfl
      have k15 := hk_.later 15 _ (by kernel_rfl) rfl
      have k16 := hk_.later 16 _ (by kernel_rfl) rfl
      have k19 := hk_.later 19 _ (by kernel_rfl) rfl
      clear hk_
      refine flow_plain rfl ?_
      exact gives_move rfl ⟨hM_, h7⟩
    refine allFrom_cons ?_ ?_
    · refine stepK_by (by decide) ?_
      intro f_ a_ w_ hM_ hk_
      have h22 : a_.eval (.tmp 22) = .int .i64 (wi % 4) := hk_.old 22 (by kernel_rfl)
      have k4 := hk_.later 4 _ (by kernel_rfl) rfl
      have k9 := hk_.later 9 _ (by kernel_rfl) rfl
      have k14 := hk_.later 14 _ (by kernel_rfl) rfl
      have k15 := hk_.later 15 _ (by kernel_rfl) rfl
      have k16 := hk_.later 16 _ (by kernel_rfl) rfl
      have k19 := hk_.later 19 _ (by kernel_rfl) rfl
      clear hk_
      refine flow_plain rfl ?_
      exact gives_move rfl ⟨hM_, h22⟩
    refine allFrom_cons ?_ ?_
    · refine stepK_by (by decide) ?_
      intro f_ a_ w_ hM_ hk_
      have h18 : a_.eval (.tmp 18) = .pointer (some ⟨w.heap.size, 0, none⟩) := hk_.old 18 (by kernel_rfl)
      have k4 := hk_.later 4 _ (by kernel_rfl) rfl
      have k9 := hk_.later 9 _ (by kernel_rfl) rfl
      have k14 := hk_.later 14 _ (by kernel_rfl) rfl
      have k15 := hk_.later 15 _ (by kernel_rfl) rfl
      have k16 := hk_.later 16 _ (by kernel_rfl) rfl
      have k19 := hk_.later 19 _ (by kernel_rfl) rfl
      clear hk_
      refine flow_plain rfl ?_
      have hM := hM_
      simp only [List.map_cons, List.map_nil, k4, k9, k14, k15, k16, k19] at hM
      exact gives_ldC rfl h18 hax (blk_cells (HKA.out _ (And.left hM))) ⟨hM_, rfl⟩
    refine allFrom_cons ?_ ?_
    · intro f_ a_ w_ hM_ hk_
      have h65 : a_.eval (.tmp 65) = (.int .i64 (wi % 4)) := hk_.got 2 65 _ (by kernel_rfl) rfl rfl
      have h66 : a_.eval (.tmp 66) = (.agg (x.map cb).toArray) := hk_.got 3 66 _ (by kernel_rfl) rfl rfl
      have k4 : f_ 4 = none := hk_.un
      have k9 := hk_.later 9 _ (by kernel_rfl) rfl
      have k14 := hk_.later 14 _ (by kernel_rfl) rfl
      have k15 := hk_.later 15 _ (by kernel_rfl) rfl
      have k16 := hk_.later 16 _ (by kernel_rfl) rfl
      have k19 := hk_.later 19 _ (by kernel_rfl) rfl
      clear hk_
      simp only [List.map_cons, List.map_nil, k4, k9, k14, k15, k16, k19] at hM_
      simp only [List.map_cons, List.map_nil, upd_same, upd_ne f_ _ (show (9 : Nat) ≠ 4 by decide), upd_ne f_ _ (show (14 : Nat) ≠ 4 by decide), upd_ne f_ _ (show (15 : Nat) ≠ 4 by decide), upd_ne f_ _ (show (16 : Nat) ≠ 4 by decide), upd_ne f_ _ (show (18 : Nat) ≠ 4 by decide), upd_ne f_ _ (show (19 : Nat) ≠ 4 by decide), k9, k14, k15, k16, k19]
      refine flow_plain rfl ?_
      unfold gives
      have hc_ : ∀ v, a_.eval (.const v) = v := fun _ => rfl
      have hn_ : ∀ f, a_.eval (.func f) = .func (.func f) #[] #[] := fun _ => rfl
      generalize a_.eval = ρ_ at *
      go_simp
      exact (HC1.out w_).mono fun e w' hh => ⟨_, hh.1, KCl.below hM_ hh.2, rfl⟩
    refine allFrom_cons ?_ ?_
    · refine stepK_by (by decide) ?_
      intro f_ a_ w_ hM_ hk_
      have h64 : a_.eval (.tmp 64) = (.int .u64 (m : Int)) := hk_.got 1 64 _ (by kernel_rfl) rfl rfl
      have h67 : a_.eval (.tmp 67) = (.agg (X.map cb).toArray) := hk_.got 4 67 _ (by kernel_rfl) rfl rfl
      have k4 := hk_.val 4 67 _ (by kernel_rfl) rfl rfl
      have k14 := hk_.later 14 _ (by kernel_rfl) rfl
      have k15 := hk_.later 15 _ (by kernel_rfl) rfl
      have k16 := hk_.later 16 _ (by kernel_rfl) rfl
      have k19 := hk_.later 19 _ (by kernel_rfl) rfl
      clear hk_
      refine flow_plain rfl ?_
      have hM := hM_
      simp only [List.map_cons, List.map_nil, k4, k14, k15, k16, k19] at hM
      exact gives_buildKy rfl h64 h67 hXl ⟨hM_, rfl⟩
    refine allFrom_cons ?_ ?_
    · refine stepK_by (by decide) ?_
      intro f_ a_ w_ hM_ hk_
      have h7 : a_.eval (.tmp 7) = .int .u64 (m : Int) := hk_.old 7 (by kernel_rfl)
      have k14 := hk_.later 14 _ (by kernel_rfl) rfl
      have k15 := hk_.later 15 _ (by kernel_rfl) rfl
      have k16 := hk_.later 16 _ (by kernel_rfl) rfl
      have k19 := hk_.later 19 _ (by kernel_rfl) rfl
      clear hk_
      refine flow_plain rfl ?_
      exact gives_move rfl ⟨hM_, h7⟩
    refine allFrom_cons ?_ ?_
    · refine stepK_by (by decide) ?_
      intro f_ a_ w_ hM_ hk_
      have h22 : a_.eval (.tmp 22) = .int .i64 (wi % 4) := hk_.old 22 (by kernel_rfl)
      have k9 := hk_.later 9 _ (by kernel_rfl) rfl
      have k14 := hk_.later 14 _ (by kernel_rfl) rfl
      have k15 := hk_.later 15 _ (by kernel_rfl) rfl
      have k16 := hk_.later 16 _ (by kernel_rfl) rfl
      have k19 := hk_.later 19 _ (by kernel_rfl) rfl
      clear hk_
      refine flow_plain rfl ?_
      exact gives_move rfl ⟨hM_, h22⟩
    refine allFrom_cons ?_ ?_
    · refine stepK_by (by decide) ?_
      intro f_ a_ w_ hM_ hk_
      have h19 : a_.eval (.tmp 19) = .pointer (some ⟨w.heap.size + 1, 0, none⟩) := hk_.old 19 (by kernel_rfl)
      have k9 := hk_.later 9 _ (by kernel_rfl) rfl
      have k14 := hk_.later 14 _ (by kernel_rfl) rfl
      have k15 := hk_.later 15 _ (by kernel_rfl) rfl
      have k16 := hk_.later 16 _ (by kernel_rfl) rfl
      have k19 := hk_.later 19 _ (by kernel_rfl) rfl
      clear hk_
      refine flow_plain rfl ?_
      have hM := hM_
      simp only [List.map_cons, List.map_nil, k9, k14, k15, k16, k19] at hM
      exact gives_ldC rfl h19 hay (blk_cells (HKB.out _ (And.left hM))) ⟨hM_, rfl⟩
    refine allFrom_cons ?_ ?_
    · intro f_ a_ w_ hM_ hk_
      have h70 : a_.eval (.tmp 70) = (.int .i64 (wi % 4)) := hk_.got 7 70 _ (by kernel_rfl) rfl rfl
      have h71 : a_.eval (.tmp 71) = (.agg (y.map cb).toArray) := hk_.got 8 71 _ (by kernel_rfl) rfl rfl
      have k4 := hk_.val 4 67 _ (by kernel_rfl) rfl rfl
      have k9 : f_ 9 = none := hk_.un
      have k14 := hk_.later 14 _ (by kernel_rfl) rfl
      have k15 := hk_.later 15 _ (by kernel_rfl) rfl
      have k16 := hk_.later 16 _ (by kernel_rfl) rfl
      have k19 := hk_.later 19 _ (by kernel_rfl) rfl
      clear hk_
      simp only [List.map_cons, List.map_nil, k4, k9, k14, k15, k16, k19] at hM_
      simp only [List.map_cons, List.map_nil, upd_same, upd_ne f_ _ (show (4 : Nat) ≠ 9 by decide), upd_ne f_ _ (show (14 : Nat) ≠ 9 by decide), upd_ne f_ _ (show (15 : Nat) ≠ 9 by decide), upd_ne f_ _ (show (16 : Nat) ≠ 9 by decide), upd_ne f_ _ (show (18 : Nat) ≠ 9 by decide), upd_ne f_ _ (show (19 : Nat) ≠ 9 by decide), k4, k14, k15, k16, k19]
      refine flow_plain rfl ?_
      unfold gives
      have hc_ : ∀ v, a_.eval (.const v) = v := fun _ => rfl
      have hn_ : ∀ f, a_.eval (.func f) = .func (.func f) #[] #[] := fun _ => rfl
      generalize a_.eval = ρ_ at *
      go_simp
      exact (HC2.out w_).mono fun e w' hh => ⟨_, hh.1, KCl.below hM_ hh.2, rfl⟩
    refine allFrom_cons ?_ ?_
    · refine stepK_by (by decide) ?_
      intro f_ a_ w_ hM_ hk_
      have h69 : a_.eval (.tmp 69) = (.int .u64 (m : Int)) := hk_.got 6 69 _ (by kernel_rfl) rfl rfl
      have h72 : a_.eval (.tmp 72) = (.agg (Y.map cb).toArray) := hk_.got 9 72 _ (by kernel_rfl) rfl rfl
      have k4 := hk_.val 4 67 _ (by kernel_rfl) rfl rfl
      have k9 := hk_.val 9 72 _ (by kernel_rfl) rfl rfl
      have k14 := hk_.later 14 _ (by kernel_rfl) rfl
      have k15 := hk_.later 15 _ (by kernel_rfl) rfl
      have k16 := hk_.later 16 _ (by kernel_rfl) rfl
      have k19 := hk_.later 19 _ (by kernel_rfl) rfl
      clear hk_
      refine flow_plain rfl ?_
      have hM := hM_
      simp only [List.map_cons, List.map_nil, k4, k9, k14, k15, k16, k19] at hM
      exact gives_buildKy rfl h69 h72 hYl ⟨hM_, rfl⟩
    refine allFrom_cons ?_ ?_
    · refine stepK_by (by decide) ?_
      intro f_ a_ w_ hM_ hk_
      have h1 : a_.eval (.tmp 1) = .int .u64 (s : Int) := hk_.old 1 (by kernel_rfl)
      have k14 := hk_.later 14 _ (by kernel_rfl) rfl
      have k15 := hk_.later 15 _ (by kernel_rfl) rfl
      have k16 := hk_.later 16 _ (by kernel_rfl) rfl
      have k19 := hk_.later 19 _ (by kernel_rfl) rfl
      clear hk_
      refine flow_plain rfl ?_
      exact gives_move rfl ⟨hM_, h1⟩
    refine allFrom_cons ?_ ?_
    · refine stepK_by (by decide) ?_
      intro f_ a_ w_ hM_ hk_
      have h5 : a_.eval (.tmp 5) = .slice Ap pl cp := hk_.old 5 (by kernel_rfl)
      have k14 := hk_.later 14 _ (by kernel_rfl) rfl
      have k15 := hk_.later 15 _ (by kernel_rfl) rfl
      have k16 := hk_.later 16 _ (by kernel_rfl) rfl
      have k19 := hk_.later 19 _ (by kernel_rfl) rfl
      clear hk_
      refine flow_plain rfl ?_
      exact gives_move rfl ⟨hM_, h5⟩
    refine allFrom_cons ?_ ?_
    · refine stepK_by (by decide) ?_
      intro f_ a_ w_ hM_ hk_
      have h6 : a_.eval (.tmp 6) = .slice Aq ql cq := hk_.old 6 (by kernel_rfl)
      have k14 := hk_.later 14 _ (by kernel_rfl) rfl
      have k15 := hk_.later 15 _ (by kernel_rfl) rfl
      have k16 := hk_.later 16 _ (by kernel_rfl) rfl
      have k19 := hk_.later 19 _ (by kernel_rfl) rfl
      clear hk_
      refine flow_plain rfl ?_
      exact gives_move rfl ⟨hM_, h6⟩
    refine allFrom_cons ?_ ?_
    · intro f_ a_ w_ hM_ hk_
      have h63 : a_.eval (.tmp 63) = (.int .i64 (wi % 4)) := hk_.got 0 63 _ (by kernel_rfl) rfl rfl
      have h68 : a_.eval (.tmp 68) = (.agg (kcell m X).toArray) := hk_.got 5 68 _ (by kernel_rfl) rfl rfl
      have h73 : a_.eval (.tmp 73) = (.agg (kcell m Y).toArray) := hk_.got 10 73 _ (by kernel_rfl) rfl rfl
      have h74 : a_.eval (.tmp 74) = (.int .u64 (s : Int)) := hk_.got 11 74 _ (by kernel_rfl) rfl rfl
      have h75 : a_.eval (.tmp 75) = (.slice Ap pl cp) := hk_.got 12 75 _ (by kernel_rfl) rfl rfl
      have h76 : a_.eval (.tmp 76) = (.slice Aq ql cq) := hk_.got 13 76 _ (by kernel_rfl) rfl rfl
      have k4 := hk_.val 4 67 _ (by kernel_rfl) rfl rfl
      have k9 := hk_.val 9 72 _ (by kernel_rfl) rfl rfl
      have k14 : f_ 14 = none := hk_.un
      have k15 := hk_.later 15 _ (by kernel_rfl) rfl
      have k16 := hk_.later 16 _ (by kernel_rfl) rfl
      have k19 := hk_.later 19 _ (by kernel_rfl) rfl
      clear hk_
      simp only [List.map_cons, List.map_nil, k4, k9, k14, k15, k16, k19] at hM_
      simp only [List.map_cons, List.map_nil, upd_same, upd_ne f_ _ (show (4 : Nat) ≠ 14 by decide), upd_ne f_ _ (show (9 : Nat) ≠ 14 by decide), upd_ne f_ _ (show (15 : Nat) ≠ 14 by decide), upd_ne f_ _ (show (16 : Nat) ≠ 14 by decide), upd_ne f_ _ (show (18 : Nat) ≠ 14 by decide), upd_ne f_ _ (show (19 : Nat) ≠ 14 by decide), k4, k9, k15, k16, k19]
      refine flow_plain rfl ?_
      unfold gives
      have hc_ : ∀ v, a_.eval (.const v) = v := fun _ => rfl
      have hn_ : ∀ f, a_.eval (.func f) = .func (.func f) #[] #[] := fun _ => rfl
      generalize a_.eval = ρ_ at *
      go_simp
      exact (HCH.out w_ (bx_trans HB04.out (And.left hM_))).mono fun e w' hh => by obtain ⟨hb', v, e1, c, e2, hv⟩ := hh; subst e2; exact ⟨_, e1, (KCl.below hM_ hb').call hv, c, rfl⟩
    refine allFrom_cons ?_ ?_
    · intro f_ a_ w_ hM_ hk_
      have h77 := hk_.got 14 77 _ (by kernel_rfl) rfl rfl
      have k4 := hk_.val 4 67 _ (by kernel_rfl) rfl rfl
      have k9 := hk_.val 9 72 _ (by kernel_rfl) rfl rfl
      have k14 := hk_.val 14 77 _ (by kernel_rfl) rfl rfl
      have k15 : f_ 15 = none := hk_.un
      have k16 := hk_.later 16 _ (by kernel_rfl) rfl
      have k19 := hk_.later 19 _ (by kernel_rfl) rfl
      clear hk_
      simp only [List.map_cons, List.map_nil, k4, k9, k14, k15, k16, k19] at hM_
      simp only [List.map_cons, List.map_nil, upd_same, upd_ne f_ _ (show (4 : Nat) ≠ 15 by decide), upd_ne f_ _ (show (9 : Nat) ≠ 15 by decide), upd_ne f_ _ (show (14 : Nat) ≠ 15 by decide), upd_ne f_ _ (show (16 : Nat) ≠ 15 by decide), upd_ne f_ _ (show (18 : Nat) ≠ 15 by decide), upd_ne f_ _ (show (19 : Nat) ≠ 15 by decide), k4, k9, k14, k16, k19]
      refine flow_plain rfl ?_
      exact gives_move rfl ⟨KCl.move hM_, h77⟩
    refine allFrom_cons ?_ ?_
    · intro f_ a_ w_ hM_ hk_
      have h62 := hk_.got 15 62 _ (by kernel_rfl) rfl rfl
      have k4 := hk_.val 4 67 _ (by kernel_rfl) rfl rfl
      have k9 := hk_.val 9 72 _ (by kernel_rfl) rfl rfl
      have k14 := hk_.val 14 77 _ (by kernel_rfl) rfl rfl
      have k15 := hk_.val 15 62 _ (by kernel_rfl) rfl rfl
      have k16 : f_ 16 = none := hk_.un
      have k19 := hk_.later 19 _ (by kernel_rfl) rfl
      clear hk_
      simp only [List.map_cons, List.map_nil, k4, k9, k14, k15, k16, k19] at hM_
      simp only [List.map_cons, List.map_nil, upd_same, upd_ne f_ _ (show (4 : Nat) ≠ 16 by decide), upd_ne f_ _ (show (9 : Nat) ≠ 16 by decide), upd_ne f_ _ (show (14 : Nat) ≠ 16 by decide), upd_ne f_ _ (show (15 : Nat) ≠ 16 by decide), upd_ne f_ _ (show (18 : Nat) ≠ 16 by decide), upd_ne f_ _ (show (19 : Nat) ≠ 16 by decide), k4, k9, k14, k15, k19]
      refine flow_plain rfl ?_
      obtain ⟨c_, e_, hc_⟩ := KCl.at15 hM_
      exact gives_ext rfl e_ rfl ⟨KCl.ext hM_ hc_, trivial⟩
    refine allFrom_cons ?_ ?_
    · refine stepK_by (by decide) ?_
      intro f_ a_ w_ hM_ hk_
      have h62 := hk_.got 15 62 _ (by kernel_rfl) rfl rfl
      have k4 := hk_.val 4 67 _ (by kernel_rfl) rfl rfl
      have k9 := hk_.val 9 72 _ (by kernel_rfl) rfl rfl
      have k14 := hk_.val 14 77 _ (by kernel_rfl) rfl rfl
      have k15 := hk_.val 15 62 _ (by kernel_rfl) rfl rfl
      clear hk_
      refine flow_plain rfl ?_
      have hM := hM_
      simp only [List.map_cons, List.map_nil, k4, k9, k14, k15] at hM
      refine gives_keep hM_ ?_
      unfold gives
      have hc_ : ∀ v, a_.eval (.const v) = v := fun _ => rfl
      have hn_ : ∀ f, a_.eval (.func f) = .func (.func f) #[] #[] := fun _ => rfl
      obtain ⟨u62, h62⟩ := h62
      generalize a_.eval = ρ_ at *
      go_simp
      exact ⟨rfl, rfl⟩
    refine allFrom_cons ?_ ?_
    · intro f_ a_ w_ hM_ hk_
      have k18 : f_ 18 = none := hk_.un
      have k19 := hk_.later 19 _ (by kernel_rfl) rfl
      clear hk_
      simp only [List.map_cons, List.map_nil, k18, k19] at hM_
      simp only [List.map_cons, List.map_nil, upd_same, upd_ne f_ _ (show (4 : Nat) ≠ 18 by decide), upd_ne f_ _ (show (9 : Nat) ≠ 18 by decide), upd_ne f_ _ (show (14 : Nat) ≠ 18 by decide), upd_ne f_ _ (show (15 : Nat) ≠ 18 by decide), upd_ne f_ _ (show (16 : Nat) ≠ 18 by decide), upd_ne f_ _ (show (19 : Nat) ≠ 18 by decide), k19]
      refine flow_plain rfl ?_
      exact gives_val (gives_alloc_run _ rfl zeroCl) ⟨KCl.new hM_, trivial⟩
    refine allFrom_cons ?_ ?_
    · intro f_ a_ w_ hM_ hk_
      have k4 := hk_.val 4 67 _ (by kernel_rfl) rfl rfl
      have k9 := hk_.val 9 72 _ (by kernel_rfl) rfl rfl
      have k14 := hk_.val 14 77 _ (by kernel_rfl) rfl rfl
      have k15 := hk_.val 15 62 _ (by kernel_rfl) rfl rfl
      have k16 := hk_.val 16 78 _ (by kernel_rfl) rfl rfl
      have k18 := hk_.val 18 25 _ (by kernel_rfl) rfl rfl
      have k19 : f_ 19 = none := hk_.un
      clear hk_
      simp only [List.map_cons, List.map_nil, k4, k9, k14, k15, k16, k18, k19] at hM_
      simp only [List.map_cons, List.map_nil, upd_same, upd_ne f_ _ (show (4 : Nat) ≠ 19 by decide), upd_ne f_ _ (show (9 : Nat) ≠ 19 by decide), upd_ne f_ _ (show (14 : Nat) ≠ 19 by decide), upd_ne f_ _ (show (15 : Nat) ≠ 19 by decide), upd_ne f_ _ (show (16 : Nat) ≠ 19 by decide), upd_ne f_ _ (show (18 : Nat) ≠ 19 by decide), k4, k9, k14, k15, k16, k18]
      refine flow_plain rfl ?_
      obtain ⟨g_, cs_, e18, hg_, hbk, hsz_⟩ := KCl.at18 hM_
      obtain ⟨cs16, e16, hc16⟩ := KCl.at16 hM_
      have hM2 := hM_
      rw [e18] at hM2
      have ho16 := hc16.one
      refine gives_store_agg rfl e18 e16 (by rw [ho16.1]; exact aggCl nilC nilC) hbk (by rw [ho16.1, hsz_]; exact Nat.le_refl _) ho16.2 (fun w1 hp1 => ?_)
      rw [spl_whole (by rw [ho16.1, hsz_])] at hp1
      refine ⟨?_, trivial⟩
      rw [e18]
      exact KCl.store hM2 hc16 hg_ hbk hp1
    exact allFrom_nil
  intro f_ y_ w_ hM_ hf_ hd_
  have h63 : f_ 63 = (.int .i64 (wi % 4)) := (hf_ 0 63 _ (by decide) rfl rfl).1
  have h64 : f_ 64 = (.int .u64 (m : Int)) := (hf_ 1 64 _ (by decide) rfl rfl).1
  have h65 : f_ 65 = (.int .i64 (wi % 4)) := (hf_ 2 65 _ (by decide) rfl rfl).1
  have h66 : f_ 66 = (.agg (x.map cb).toArray) := (hf_ 3 66 _ (by decide) rfl rfl).1
  have k4 := (hf_ 4 67 _ (by decide) rfl rfl).2
  have h67 : f_ 67 = (.agg (X.map cb).toArray) := (hf_ 4 67 _ (by decide) rfl rfl).1
  have h68 : f_ 68 = (.agg (kcell m X).toArray) := (hf_ 5 68 _ (by decide) rfl rfl).1
  have h69 : f_ 69 = (.int .u64 (m : Int)) := (hf_ 6 69 _ (by decide) rfl rfl).1
  have h70 : f_ 70 = (.int .i64 (wi % 4)) := (hf_ 7 70 _ (by decide) rfl rfl).1
  have h71 : f_ 71 = (.agg (y.map cb).toArray) := (hf_ 8 71 _ (by decide) rfl rfl).1
  have k9 := (hf_ 9 72 _ (by decide) rfl rfl).2
  have h72 : f_ 72 = (.agg (Y.map cb).toArray) := (hf_ 9 72 _ (by decide) rfl rfl).1
  have h73 : f_ 73 = (.agg (kcell m Y).toArray) := (hf_ 10 73 _ (by decide) rfl rfl).1
  have h74 : f_ 74 = (.int .u64 (s : Int)) := (hf_ 11 74 _ (by decide) rfl rfl).1
  have h75 : f_ 75 = (.slice Ap pl cp) := (hf_ 12 75 _ (by decide) rfl rfl).1
  have h76 : f_ 76 = (.slice Aq ql cq) := (hf_ 13 76 _ (by decide) rfl rfl).1
  have k14 := (hf_ 14 77 _ (by decide) rfl rfl).2
  have h77 := (hf_ 14 77 _ (by decide) rfl rfl).1
  have k15 := (hf_ 15 62 _ (by decide) rfl rfl).2
  have h62 := (hf_ 15 62 _ (by decide) rfl rfl).1
  have k16 := (hf_ 16 78 _ (by decide) rfl rfl).2
  have h79 : f_ 79 = (.bool is2) := (hf_ 17 79 _ (by decide) rfl rfl).1
  have k18 := (hf_ 18 25 _ (by decide) rfl rfl).2
  obtain ⟨x19, k19⟩ := hd_ 19 (by decide)
  simp only [List.map_cons, List.map_nil, k4, k9, k14, k15, k16, k18, k19] at hM_
  simp only [mix, List.drop_succ_cons, List.drop_zero, h63, h64, h65, h66, h67, h68, h69, h70, h71, h72, h73, h74, h75, h76, h79]
  clear hf_ hd_ h63 h64 h65 h66 h67 h68 h69 h70 h71 h72 h73 h74 h75 h76 h79 k4 k9 k14 k15 k16 k18 k19
  obtain ⟨hb45, g25, cs2, e25, hbk2, hsz2, hc2⟩ := KCl.done hM_
  rw [e25]
  clear hM_ e25
  rename World => w5
  have hb05 := bx_trans HB04.out hb45
  have hbk1 := hc4.below hb45 hc4.lt
  have hc1 := HC1B.out.below hb45
  obtain ⟨va, vb, ra, rb, e1, oa, ob, l1, l2, hB1⟩ := hc1
  injection e1 with e1
  subst e1
  obtain ⟨vc, vd, rc, rd, e2, oc, od, l3, l4, hB2⟩ := hc2
  injection e2 with e2
  subst e2
  obtain ⟨A1, d1, rfl, k1, r1⟩ := oa.rd
  obtain ⟨A2, d2, rfl, k2, r2⟩ := ob.rd
  obtain ⟨A3, d3, rfl, k3, r3⟩ := oc.rd
  obtain ⟨A4, d4, rfl, k4, r4⟩ := od.rd
  have HK1 := hid (fun (W : World) (hb : Below w5.heap.size w5 W) => Check_any W (HL.out.below (bx_trans hb05 hb)) (wi % 4) (c := d1) (c' := d2) ((r1.below hb).more hb.size) (Nat.le_refl _) k1 (by omega) ((r2.below hb).more hb.size) (Nat.le_refl _) k2 (by omega))
  have HK2 := hid (fun (W : World) (hb : Below w5.heap.size w5 W) => Check_any W (HL.out.below (bx_trans hb05 hb)) (wi % 4) (c := d3) (c' := d4) ((r3.below hb).more hb.size) (Nat.le_refl _) k3 (by omega) ((r4.below hb).more hb.size) (Nat.le_refl _) k4 (by omega))
  clear oa ob oc od r1 r2 r3 r4 k1 k2 k3 k4 l1 l2 l3 l4
  go_wp2_with fail
  unfold Hold
  cases is1 with
  | true =>
    rw [hB1 rfl] at HK1
    cases is2 with
    | true =>
      rw [hB2 rfl] at HK2
      clear hB1 hB2
      refine wp_region_lit ?_
      refine wp_flowSE [0, 1, 3, 7, 15, 31, 63, 127, 255, 511, 1023, 2047, 4095, 8191, 16383, 32767, 65535] 17 [false, false, false, false, false, false, false, false, false, false, false, false, false, false, false, false, false, false, false, false, true, false, false, false, false, false, false, false, false, false, false, false, false, false, false, false, false, false, false, false, false, false, false, false, false, false, false, false, false, false, false, false, false, false, false, false, false, false, false, false, false, false, false, false, false, false, false, false, false, false, false, false, false, false, false, false, false, false, false, false, true, true, true, true, true, true, true, true, true, true, true, true, true, true, true, true] (by kernel_rfl) (by kernel_rfl) (by kernel_rfl) [FP.eq (.bool true), FP.eq (.bool false), FP.eq (.bool false), FP.eq (.int .i64 (wi % 4)), FP.eq (.agg #[.slice A1 ra.length d1, .slice A2 rb.length d2]), FP.eq (.bool true), FP.eq (.bool true), FP.eq (.bool true), FP.eq (.bool true), FP.eq (.bool false), FP.eq (.bool false), FP.eq (.int .i64 (wi % 4)), FP.eq (.agg #[.slice A3 rc.length d3, .slice A4 rd.length d4]), FP.eq (.bool true), FP.eq (.bool true), FP.eq (.bool true), FP.eq (.bool true)] ?_ ?_
      · refine allFrom_cons ?_ ?_
        · intro a_ w_ hk_
          have h24 : a_.eval (.tmp 24) = .bool true := hk_.old 24 (by kernel_rfl)
          have hx_ := hk_.ext
          clear hk_
          refine flow_plain rfl ?_
          exact gives_move rfl ⟨Below.refl _ _, h24⟩
        refine allFrom_cons ?_ ?_
        · intro a_ w_ hk_
          have h80 : a_.eval (.tmp 80) = (.bool true) := hk_.got 0 80 _ (by kernel_rfl) rfl rfl
          have hx_ := hk_.ext
          clear hk_
          refine flow_plain rfl ?_
          unfold gives
          have hc_ : ∀ v, a_.eval (.const v) = v := fun _ => rfl
          have hn_ : ∀ f, a_.eval (.func f) = .func (.func f) #[] #[] := fun _ => rfl
          generalize a_.eval = ρ_ at *
          go_simp
          exact ⟨Below.refl _ _, rfl⟩
        refine allFrom_cons ?_ ?_
        · intro a_ w_ hk_
          have h81 : a_.eval (.tmp 81) = (.bool false) := hk_.got 1 81 _ (by kernel_rfl) rfl rfl
          have hx_ := hk_.ext
          clear hk_
          refine flow_plain rfl ?_
          exact gives_move rfl ⟨Below.refl _ _, h81⟩
        refine allFrom_cons ?_ ?_
        · intro a_ w_ hk_
          have h22 : a_.eval (.tmp 22) = .int .i64 (wi % 4) := hk_.old 22 (by kernel_rfl)
          have hg_ : a_.eval (.tmp 82) = .bool false := hk_.got 2 82 _ (by kernel_rfl) rfl rfl
          have hy_ := hk_.want 2 _ 82 false rfl rfl hg_
          have hx_ := hk_.ext
          clear hk_
          refine flow_want rfl hy_ ?_
          exact gives_move rfl ⟨Below.refl _ _, h22⟩
        refine allFrom_cons ?_ ?_
        · intro a_ w_ hk_
          have h23 : a_.eval (.tmp 23) = .pointer (some ⟨g23, 0, none⟩) := hk_.old 23 (by kernel_rfl)
          have hg_ : a_.eval (.tmp 82) = .bool false := hk_.got 2 82 _ (by kernel_rfl) rfl rfl
          have hy_ := hk_.want 2 _ 82 false rfl rfl hg_
          have hx_ := hk_.ext
          clear hk_
          refine flow_want rfl hy_ ?_
          exact gives_ldC rfl h23 (aggCl _ _) (blk_cells (hbk1.below hx_ hbk1.lt)) ⟨Below.refl _ _, rfl⟩
        refine allFrom_cons ?_ ?_
        · intro a_ w_ hk_
          have h83 : a_.eval (.tmp 83) = (.int .i64 (wi % 4)) := hk_.got 3 83 _ (by kernel_rfl) rfl rfl
          have h84 : a_.eval (.tmp 84) = (.agg #[.slice A1 ra.length d1, .slice A2 rb.length d2]) := hk_.got 4 84 _ (by kernel_rfl) rfl rfl
          have hg_ : a_.eval (.tmp 82) = .bool false := hk_.got 2 82 _ (by kernel_rfl) rfl rfl
          have hy_ := hk_.want 2 _ 82 false rfl rfl hg_
          have hx_ := hk_.ext
          clear hk_
          refine flow_want rfl hy_ ?_
          unfold gives
          have hc_ : ∀ v, a_.eval (.const v) = v := fun _ => rfl
          have hn_ : ∀ f, a_.eval (.func f) = .func (.func f) #[] #[] := fun _ => rfl
          clear hy_ hg_
          generalize a_.eval = ρ_ at *
          go_simp
          exact (HK1.out w_ hx_).mono fun e w' hh => ⟨_, hh.1, hh.2, rfl⟩
        refine allFrom_cons ?_ ?_
        · intro a_ w_ hk_
          have h82 : a_.eval (.tmp 82) = (.bool false) := hk_.got 2 82 _ (by kernel_rfl) rfl rfl
          have h85 : a_.eval (.tmp 85) = (.bool true) := hk_.got 5 85 _ (by kernel_rfl) rfl rfl
          have hx_ := hk_.ext
          clear hk_
          refine flow_plain rfl ?_
          exact gives_pick rfl h82 ⟨Below.refl _ _, h85⟩
        refine allFrom_cons ?_ ?_
        · intro a_ w_ hk_
          have h86 : a_.eval (.tmp 86) = (.bool true) := hk_.got 6 86 _ (by kernel_rfl) rfl rfl
          have hx_ := hk_.ext
          clear hk_
          refine flow_plain rfl ?_
          exact gives_move rfl ⟨Below.refl _ _, h86⟩
        refine allFrom_cons ?_ ?_
        · intro a_ w_ hk_
          have h26 : a_.eval (.tmp 26) = .bool true := hk_.old 26 (by kernel_rfl)
          have hg_ : a_.eval (.tmp 87) = .bool true := hk_.got 7 87 _ (by kernel_rfl) rfl rfl
          have hy_ := hk_.want 7 _ 87 true rfl rfl hg_
          have hx_ := hk_.ext
          clear hk_
          refine flow_want rfl hy_ ?_
          exact gives_move rfl ⟨Below.refl _ _, h26⟩
        refine allFrom_cons ?_ ?_
        · intro a_ w_ hk_
          have h88 : a_.eval (.tmp 88) = (.bool true) := hk_.got 8 88 _ (by kernel_rfl) rfl rfl
          have hg_ : a_.eval (.tmp 87) = .bool true := hk_.got 7 87 _ (by kernel_rfl) rfl rfl
          have hy_ := hk_.want 7 _ 87 true rfl rfl hg_
          have hx_ := hk_.ext
          clear hk_
          refine flow_want rfl hy_ ?_
          unfold gives
          have hc_ : ∀ v, a_.eval (.const v) = v := fun _ => rfl
          have hn_ : ∀ f, a_.eval (.func f) = .func (.func f) #[] #[] := fun _ => rfl
          clear hy_ hg_
          generalize a_.eval = ρ_ at *
          go_simp
          exact ⟨Below.refl _ _, rfl⟩
        refine allFrom_cons ?_ ?_
        · intro a_ w_ hk_
          have h89 : a_.eval (.tmp 89) = (.bool false) := hk_.got 9 89 _ (by kernel_rfl) rfl rfl
          have hg_ : a_.eval (.tmp 87) = .bool true := hk_.got 7 87 _ (by kernel_rfl) rfl rfl
          have hy_ := hk_.want 7 _ 87 true rfl rfl hg_
          have hx_ := hk_.ext
          clear hk_
          refine flow_want rfl hy_ ?_
          exact gives_move rfl ⟨Below.refl _ _, h89⟩
        refine allFrom_cons ?_ ?_
        · intro a_ w_ hk_
          have h22 : a_.eval (.tmp 22) = .int .i64 (wi % 4) := hk_.old 22 (by kernel_rfl)
          have hg_ : a_.eval (.tmp 90) = .bool false := hk_.got 10 90 _ (by kernel_rfl) rfl rfl
          have hy_ := hk_.want 10 _ 90 false rfl rfl hg_
          have hx_ := hk_.ext
          clear hk_
          refine flow_want rfl hy_ ?_
          exact gives_move rfl ⟨Below.refl _ _, h22⟩
        refine allFrom_cons ?_ ?_
        · intro a_ w_ hk_
          have h25 : a_.eval (.tmp 25) = .pointer (some ⟨g25, 0, none⟩) := hk_.old 25 (by kernel_rfl)
          have hg_ : a_.eval (.tmp 90) = .bool false := hk_.got 10 90 _ (by kernel_rfl) rfl rfl
          have hy_ := hk_.want 10 _ 90 false rfl rfl hg_
          have hx_ := hk_.ext
          clear hk_
          refine flow_want rfl hy_ ?_
          exact gives_ldC rfl h25 (aggCl _ _) (blk_cells (hbk2.below hx_ hbk2.lt)) ⟨Below.refl _ _, rfl⟩
        refine allFrom_cons ?_ ?_
        · intro a_ w_ hk_
          have h91 : a_.eval (.tmp 91) = (.int .i64 (wi % 4)) := hk_.got 11 91 _ (by kernel_rfl) rfl rfl
          have h92 : a_.eval (.tmp 92) = (.agg #[.slice A3 rc.length d3, .slice A4 rd.length d4]) := hk_.got 12 92 _ (by kernel_rfl) rfl rfl
          have hg_ : a_.eval (.tmp 90) = .bool false := hk_.got 10 90 _ (by kernel_rfl) rfl rfl
          have hy_ := hk_.want 10 _ 90 false rfl rfl hg_
          have hx_ := hk_.ext
          clear hk_
          refine flow_want rfl hy_ ?_
          unfold gives
          have hc_ : ∀ v, a_.eval (.const v) = v := fun _ => rfl
          have hn_ : ∀ f, a_.eval (.func f) = .func (.func f) #[] #[] := fun _ => rfl
          clear hy_ hg_
          generalize a_.eval = ρ_ at *
          go_simp
          exact (HK2.out w_ hx_).mono fun e w' hh => ⟨_, hh.1, hh.2, rfl⟩
        refine allFrom_cons ?_ ?_
        · intro a_ w_ hk_
          have h90 : a_.eval (.tmp 90) = (.bool false) := hk_.got 10 90 _ (by kernel_rfl) rfl rfl
          have h93 : a_.eval (.tmp 93) = (.bool true) := hk_.got 13 93 _ (by kernel_rfl) rfl rfl
          have hg_ : a_.eval (.tmp 87) = .bool true := hk_.got 7 87 _ (by kernel_rfl) rfl rfl
          have hy_ := hk_.want 7 _ 87 true rfl rfl hg_
          have hx_ := hk_.ext
          clear hk_
          refine flow_want rfl hy_ ?_
          exact gives_pick rfl h90 ⟨Below.refl _ _, h93⟩
        refine allFrom_cons ?_ ?_
        · intro a_ w_ hk_
          have h87 : a_.eval (.tmp 87) = (.bool true) := hk_.got 7 87 _ (by kernel_rfl) rfl rfl
          have h94 : a_.eval (.tmp 94) = (.bool true) := hk_.got 14 94 _ (by kernel_rfl) rfl rfl
          have hx_ := hk_.ext
          clear hk_
          refine flow_plain rfl ?_
          exact gives_pick rfl h87 ⟨Below.refl _ _, h94⟩
        refine allFrom_cons ?_ ?_
        · intro a_ w_ hk_
          have h95 : a_.eval (.tmp 95) = (.bool true) := hk_.got 15 95 _ (by kernel_rfl) rfl rfl
          have hx_ := hk_.ext
          clear hk_
          refine flow_plain rfl ?_
          exact gives_assign rfl ⟨Below.refl _ _, h95⟩
        exact allFrom_nil
      intro f_ w_ hx_ hf_
      have h80 : f_ 80 = (.bool true) := hf_ 0 80 _ (by decide) rfl rfl
      have h81 : f_ 81 = (.bool false) := hf_ 1 81 _ (by decide) rfl rfl
      have h82 : f_ 82 = (.bool false) := hf_ 2 82 _ (by decide) rfl rfl
      have h83 : f_ 83 = (.int .i64 (wi % 4)) := hf_ 3 83 _ (by decide) rfl rfl
      have h84 : f_ 84 = (.agg #[.slice A1 ra.length d1, .slice A2 rb.length d2]) := hf_ 4 84 _ (by decide) rfl rfl
      have h85 : f_ 85 = (.bool true) := hf_ 5 85 _ (by decide) rfl rfl
      have h86 : f_ 86 = (.bool true) := hf_ 6 86 _ (by decide) rfl rfl
      have h87 : f_ 87 = (.bool true) := hf_ 7 87 _ (by decide) rfl rfl
      have h88 : f_ 88 = (.bool true) := hf_ 8 88 _ (by decide) rfl rfl
      have h89 : f_ 89 = (.bool false) := hf_ 9 89 _ (by decide) rfl rfl
      have h90 : f_ 90 = (.bool false) := hf_ 10 90 _ (by decide) rfl rfl
      have h91 : f_ 91 = (.int .i64 (wi % 4)) := hf_ 11 91 _ (by decide) rfl rfl
      have h92 : f_ 92 = (.agg #[.slice A3 rc.length d3, .slice A4 rd.length d4]) := hf_ 12 92 _ (by decide) rfl rfl
      have h93 : f_ 93 = (.bool true) := hf_ 13 93 _ (by decide) rfl rfl
      have h94 : f_ 94 = (.bool true) := hf_ 14 94 _ (by decide) rfl rfl
      have h95 : f_ 95 = (.bool true) := hf_ 15 95 _ (by decide) rfl rfl
      have h20 : f_ 20 = (.bool true) := hf_ 16 20 _ (by decide) rfl rfl
      simp only [mix, h80, h81, h82, h83, h84, h85, h86, h87, h88, h89, h90, h91, h92, h93, h94, h95, h20]
      clear h80 h81 h82 h83 h84 h85 h86 h87 h88 h89 h90 h91 h92 h93 h94 h95 h20
      clear hf_
      have hbf := bx_trans hb05 hx_
      clear hx_
      go_wp2_with fail
      go_ret
      exact ⟨rfl, hbf⟩
    | false =>
      clear hB1 hB2
      refine wp_region_lit ?_
      refine wp_flowSE [0, 1, 3, 7, 15, 31, 63, 127, 255, 511, 1023, 2047, 4095, 8191, 16383, 32767, 65535] 17 [false, false, false, false, false, false, false, false, false, false, false, false, false, false, false, false, false, false, false, false, true, false, false, false, false, false, false, false, false, false, false, false, false, false, false, false, false, false, false, false, false, false, false, false, false, false, false, false, false, false, false, false, false, false, false, false, false, false, false, false, false, false, false, false, false, false, false, false, false, false, false, false, false, false, false, false, false, false, false, false, true, true, true, true, true, true, true, true, true, true, true, true, true, true, true, true] (by kernel_rfl) (by kernel_rfl) (by kernel_rfl) [FP.eq (.bool true), FP.eq (.bool false), FP.eq (.bool false), FP.eq (.int .i64 (wi % 4)), FP.eq (.agg #[.slice A1 ra.length d1, .slice A2 rb.length d2]), FP.eq (.bool true), FP.eq (.bool true), FP.eq (.bool true), FP.eq (.bool false), FP.eq (.bool true), FP.eq (.bool true), FP.any, FP.any, FP.any, FP.eq (.bool true), FP.eq (.bool true), FP.eq (.bool true)] ?_ ?_
      · refine allFrom_cons ?_ ?_
        · intro a_ w_ hk_
          have h24 : a_.eval (.tmp 24) = .bool true := hk_.old 24 (by kernel_rfl)
          have hx_ := hk_.ext
          clear hk_
          refine flow_plain rfl ?_
          exact gives_move rfl ⟨Below.refl _ _, h24⟩
        refine allFrom_cons ?_ ?_
        · intro a_ w_ hk_
          have h80 : a_.eval (.tmp 80) = (.bool true) := hk_.got 0 80 _ (by kernel_rfl) rfl rfl
          have hx_ := hk_.ext
          clear hk_
          refine flow_plain rfl ?_
          unfold gives
          have hc_ : ∀ v, a_.eval (.const v) = v := fun _ => rfl
          have hn_ : ∀ f, a_.eval (.func f) = .func (.func f) #[] #[] := fun _ => rfl
          generalize a_.eval = ρ_ at *
          go_simp
          exact ⟨Below.refl _ _, rfl⟩
        refine allFrom_cons ?_ ?_
        · intro a_ w_ hk_
          have h81 : a_.eval (.tmp 81) = (.bool false) := hk_.got 1 81 _ (by kernel_rfl) rfl rfl
          have hx_ := hk_.ext
          clear hk_
          refine flow_plain rfl ?_
          exact gives_move rfl ⟨Below.refl _ _, h81⟩
        refine allFrom_cons ?_ ?_
        · intro a_ w_ hk_
          have h22 : a_.eval (.tmp 22) = .int .i64 (wi % 4) := hk_.old 22 (by kernel_rfl)
          have hg_ : a_.eval (.tmp 82) = .bool false := hk_.got 2 82 _ (by kernel_rfl) rfl rfl
          have hy_ := hk_.want 2 _ 82 false rfl rfl hg_
          have hx_ := hk_.ext
          clear hk_
          refine flow_want rfl hy_ ?_
          exact gives_move rfl ⟨Below.refl _ _, h22⟩
        refine allFrom_cons ?_ ?_
        · intro a_ w_ hk_
          have h23 : a_.eval (.tmp 23) = .pointer (some ⟨g23, 0, none⟩) := hk_.old 23 (by kernel_rfl)
          have hg_ : a_.eval (.tmp 82) = .bool false := hk_.got 2 82 _ (by kernel_rfl) rfl rfl
          have hy_ := hk_.want 2 _ 82 false rfl rfl hg_
          have hx_ := hk_.ext
          clear hk_
          refine flow_want rfl hy_ ?_
          exact gives_ldC rfl h23 (aggCl _ _) (blk_cells (hbk1.below hx_ hbk1.lt)) ⟨Below.refl _ _, rfl⟩
        refine allFrom_cons ?_ ?_
        · intro a_ w_ hk_
          have h83 : a_.eval (.tmp 83) = (.int .i64 (wi % 4)) := hk_.got 3 83 _ (by kernel_rfl) rfl rfl
          have h84 : a_.eval (.tmp 84) = (.agg #[.slice A1 ra.length d1, .slice A2 rb.length d2]) := hk_.got 4 84 _ (by kernel_rfl) rfl rfl
          have hg_ : a_.eval (.tmp 82) = .bool false := hk_.got 2 82 _ (by kernel_rfl) rfl rfl
          have hy_ := hk_.want 2 _ 82 false rfl rfl hg_
          have hx_ := hk_.ext
          clear hk_
          refine flow_want rfl hy_ ?_
          unfold gives
          have hc_ : ∀ v, a_.eval (.const v) = v := fun _ => rfl
          have hn_ : ∀ f, a_.eval (.func f) = .func (.func f) #[] #[] := fun _ => rfl
          clear hy_ hg_
          generalize a_.eval = ρ_ at *
          go_simp
          exact (HK1.out w_ hx_).mono fun e w' hh => ⟨_, hh.1, hh.2, rfl⟩
        refine allFrom_cons ?_ ?_
        · intro a_ w_ hk_
          have h82 : a_.eval (.tmp 82) = (.bool false) := hk_.got 2 82 _ (by kernel_rfl) rfl rfl
          have h85 : a_.eval (.tmp 85) = (.bool true) := hk_.got 5 85 _ (by kernel_rfl) rfl rfl
          have hx_ := hk_.ext
          clear hk_
          refine flow_plain rfl ?_
          exact gives_pick rfl h82 ⟨Below.refl _ _, h85⟩
        refine allFrom_cons ?_ ?_
        · intro a_ w_ hk_
          have h86 : a_.eval (.tmp 86) = (.bool true) := hk_.got 6 86 _ (by kernel_rfl) rfl rfl
          have hx_ := hk_.ext
          clear hk_
          refine flow_plain rfl ?_
          exact gives_move rfl ⟨Below.refl _ _, h86⟩
        refine allFrom_cons ?_ ?_
        · intro a_ w_ hk_
          have h26 : a_.eval (.tmp 26) = .bool false := hk_.old 26 (by kernel_rfl)
          have hg_ : a_.eval (.tmp 87) = .bool true := hk_.got 7 87 _ (by kernel_rfl) rfl rfl
          have hy_ := hk_.want 7 _ 87 true rfl rfl hg_
          have hx_ := hk_.ext
          clear hk_
          refine flow_want rfl hy_ ?_
          exact gives_move rfl ⟨Below.refl _ _, h26⟩
        refine allFrom_cons ?_ ?_
        · intro a_ w_ hk_
          have h88 : a_.eval (.tmp 88) = (.bool false) := hk_.got 8 88 _ (by kernel_rfl) rfl rfl
          have hg_ : a_.eval (.tmp 87) = .bool true := hk_.got 7 87 _ (by kernel_rfl) rfl rfl
          have hy_ := hk_.want 7 _ 87 true rfl rfl hg_
          have hx_ := hk_.ext
          clear hk_
          refine flow_want rfl hy_ ?_
          unfold gives
          have hc_ : ∀ v, a_.eval (.const v) = v := fun _ => rfl
          have hn_ : ∀ f, a_.eval (.func f) = .func (.func f) #[] #[] := fun _ => rfl
          clear hy_ hg_
          generalize a_.eval = ρ_ at *
          go_simp
          exact ⟨Below.refl _ _, rfl⟩
        refine allFrom_cons ?_ ?_
        · intro a_ w_ hk_
          have h89 : a_.eval (.tmp 89) = (.bool true) := hk_.got 9 89 _ (by kernel_rfl) rfl rfl
          have hg_ : a_.eval (.tmp 87) = .bool true := hk_.got 7 87 _ (by kernel_rfl) rfl rfl
          have hy_ := hk_.want 7 _ 87 true rfl rfl hg_
          have hx_ := hk_.ext
          clear hk_
          refine flow_want rfl hy_ ?_
          exact gives_move rfl ⟨Below.refl _ _, h89⟩
        refine allFrom_cons ?_ ?_
        · intro a_ w_ hk_
          have h22 : a_.eval (.tmp 22) = .int .i64 (wi % 4) := hk_.old 22 (by kernel_rfl)
          have hg_ : a_.eval (.tmp 90) = .bool true := hk_.got 10 90 _ (by kernel_rfl) rfl rfl
          have hy_ := hk_.want 10 _ 90 true rfl rfl hg_
          have hx_ := hk_.ext
          clear hk_
          exact flow_skip rfl hy_ (by decide) trivial
        refine allFrom_cons ?_ ?_
        · intro a_ w_ hk_
          have h25 : a_.eval (.tmp 25) = .pointer (some ⟨g25, 0, none⟩) := hk_.old 25 (by kernel_rfl)
          have hg_ : a_.eval (.tmp 90) = .bool true := hk_.got 10 90 _ (by kernel_rfl) rfl rfl
          have hy_ := hk_.want 10 _ 90 true rfl rfl hg_
          have hx_ := hk_.ext
          clear hk_
          exact flow_skip rfl hy_ (by decide) trivial
        refine allFrom_cons ?_ ?_
        · intro a_ w_ hk_
          have hg_ : a_.eval (.tmp 90) = .bool true := hk_.got 10 90 _ (by kernel_rfl) rfl rfl
          have hy_ := hk_.want 10 _ 90 true rfl rfl hg_
          have hx_ := hk_.ext
          clear hk_
          exact flow_skip rfl hy_ (by decide) trivial
        refine allFrom_cons ?_ ?_
        · intro a_ w_ hk_
          have h90 : a_.eval (.tmp 90) = (.bool true) := hk_.got 10 90 _ (by kernel_rfl) rfl rfl
          have hg_ : a_.eval (.tmp 87) = .bool true := hk_.got 7 87 _ (by kernel_rfl) rfl rfl
          have hy_ := hk_.want 7 _ 87 true rfl rfl hg_
          have hx_ := hk_.ext
          clear hk_
          refine flow_want rfl hy_ ?_
          exact gives_pick rfl h90 ⟨Below.refl _ _, rfl⟩
        refine allFrom_cons ?_ ?_
        · intro a_ w_ hk_
          have h87 : a_.eval (.tmp 87) = (.bool true) := hk_.got 7 87 _ (by kernel_rfl) rfl rfl
          have h94 : a_.eval (.tmp 94) = (.bool true) := hk_.got 14 94 _ (by kernel_rfl) rfl rfl
          have hx_ := hk_.ext
          clear hk_
          refine flow_plain rfl ?_
          exact gives_pick rfl h87 ⟨Below.refl _ _, h94⟩
        refine allFrom_cons ?_ ?_
        · intro a_ w_ hk_
          have h95 : a_.eval (.tmp 95) = (.bool true) := hk_.got 15 95 _ (by kernel_rfl) rfl rfl
          have hx_ := hk_.ext
          clear hk_
          refine flow_plain rfl ?_
          exact gives_assign rfl ⟨Below.refl _ _, h95⟩
        exact allFrom_nil
      intro f_ w_ hx_ hf_
      have h80 : f_ 80 = (.bool true) := hf_ 0 80 _ (by decide) rfl rfl
      have h81 : f_ 81 = (.bool false) := hf_ 1 81 _ (by decide) rfl rfl
      have h82 : f_ 82 = (.bool false) := hf_ 2 82 _ (by decide) rfl rfl
      have h83 : f_ 83 = (.int .i64 (wi % 4)) := hf_ 3 83 _ (by decide) rfl rfl
      have h84 : f_ 84 = (.agg #[.slice A1 ra.length d1, .slice A2 rb.length d2]) := hf_ 4 84 _ (by decide) rfl rfl
      have h85 : f_ 85 = (.bool true) := hf_ 5 85 _ (by decide) rfl rfl
      have h86 : f_ 86 = (.bool true) := hf_ 6 86 _ (by decide) rfl rfl
      have h87 : f_ 87 = (.bool true) := hf_ 7 87 _ (by decide) rfl rfl
      have h88 : f_ 88 = (.bool false) := hf_ 8 88 _ (by decide) rfl rfl
      have h89 : f_ 89 = (.bool true) := hf_ 9 89 _ (by decide) rfl rfl
      have h90 : f_ 90 = (.bool true) := hf_ 10 90 _ (by decide) rfl rfl
      have h94 : f_ 94 = (.bool true) := hf_ 14 94 _ (by decide) rfl rfl
      have h95 : f_ 95 = (.bool true) := hf_ 15 95 _ (by decide) rfl rfl
      have h20 : f_ 20 = (.bool true) := hf_ 16 20 _ (by decide) rfl rfl
      simp only [mix, h80, h81, h82, h83, h84, h85, h86, h87, h88, h89, h90, h94, h95, h20]
      clear h80 h81 h82 h83 h84 h85 h86 h87 h88 h89 h90 h94 h95 h20
      clear hf_
      have hbf := bx_trans hb05 hx_
      clear hx_
      go_wp2_with fail
      go_ret
      exact ⟨rfl, hbf⟩
  | false =>
    cases is2 with
    | true =>
      rw [hB2 rfl] at HK2
      clear hB1 hB2
      refine wp_region_lit ?_
      refine wp_flowSE [0, 1, 3, 7, 15, 31, 63, 127, 255, 511, 1023, 2047, 4095, 8191, 16383, 32767, 65535] 17 [false, false, false, false, false, false, false, false, false, false, false, false, false, false, false, false, false, false, false, false, true, false, false, false, false, false, false, false, false, false, false, false, false, false, false, false, false, false, false, false, false, false, false, false, false, false, false, false, false, false, false, false, false, false, false, false, false, false, false, false, false, false, false, false, false, false, false, false, false, false, false, false, false, false, false, false, false, false, false, false, true, true, true, true, true, true, true, true, true, true, true, true, true, true, true, true] (by kernel_rfl) (by kernel_rfl) (by kernel_rfl) [FP.eq (.bool false), FP.eq (.bool true), FP.eq (.bool true), FP.any, FP.any, FP.any, FP.eq (.bool true), FP.eq (.bool true), FP.eq (.bool true), FP.eq (.bool false), FP.eq (.bool false), FP.eq (.int .i64 (wi % 4)), FP.eq (.agg #[.slice A3 rc.length d3, .slice A4 rd.length d4]), FP.eq (.bool true), FP.eq (.bool true), FP.eq (.bool true), FP.eq (.bool true)] ?_ ?_
      · refine allFrom_cons ?_ ?_
        · intro a_ w_ hk_
          have h24 : a_.eval (.tmp 24) = .bool false := hk_.old 24 (by kernel_rfl)
          have hx_ := hk_.ext
          clear hk_
          refine flow_plain rfl ?_
          exact gives_move rfl ⟨Below.refl _ _, h24⟩
        refine allFrom_cons ?_ ?_
        · intro a_ w_ hk_
          have h80 : a_.eval (.tmp 80) = (.bool false) := hk_.got 0 80 _ (by kernel_rfl) rfl rfl
          have hx_ := hk_.ext
          clear hk_
          refine flow_plain rfl ?_
          unfold gives
          have hc_ : ∀ v, a_.eval (.const v) = v := fun _ => rfl
          have hn_ : ∀ f, a_.eval (.func f) = .func (.func f) #[] #[] := fun _ => rfl
          generalize a_.eval = ρ_ at *
          go_simp
          exact ⟨Below.refl _ _, rfl⟩
        refine allFrom_cons ?_ ?_
        · intro a_ w_ hk_
          have h81 : a_.eval (.tmp 81) = (.bool true) := hk_.got 1 81 _ (by kernel_rfl) rfl rfl
          have hx_ := hk_.ext
          clear hk_
          refine flow_plain rfl ?_
          exact gives_move rfl ⟨Below.refl _ _, h81⟩
        refine allFrom_cons ?_ ?_
        · intro a_ w_ hk_
          have h22 : a_.eval (.tmp 22) = .int .i64 (wi % 4) := hk_.old 22 (by kernel_rfl)
          have hg_ : a_.eval (.tmp 82) = .bool true := hk_.got 2 82 _ (by kernel_rfl) rfl rfl
          have hy_ := hk_.want 2 _ 82 true rfl rfl hg_
          have hx_ := hk_.ext
          clear hk_
          exact flow_skip rfl hy_ (by decide) trivial
        refine allFrom_cons ?_ ?_
        · intro a_ w_ hk_
          have h23 : a_.eval (.tmp 23) = .pointer (some ⟨g23, 0, none⟩) := hk_.old 23 (by kernel_rfl)
          have hg_ : a_.eval (.tmp 82) = .bool true := hk_.got 2 82 _ (by kernel_rfl) rfl rfl
          have hy_ := hk_.want 2 _ 82 true rfl rfl hg_
          have hx_ := hk_.ext
          clear hk_
          exact flow_skip rfl hy_ (by decide) trivial
        refine allFrom_cons ?_ ?_
        · intro a_ w_ hk_
          have hg_ : a_.eval (.tmp 82) = .bool true := hk_.got 2 82 _ (by kernel_rfl) rfl rfl
          have hy_ := hk_.want 2 _ 82 true rfl rfl hg_
          have hx_ := hk_.ext
          clear hk_
          exact flow_skip rfl hy_ (by decide) trivial
        refine allFrom_cons ?_ ?_
        · intro a_ w_ hk_
          have h82 : a_.eval (.tmp 82) = (.bool true) := hk_.got 2 82 _ (by kernel_rfl) rfl rfl
          have hx_ := hk_.ext
          clear hk_
          refine flow_plain rfl ?_
          exact gives_pick rfl h82 ⟨Below.refl _ _, rfl⟩
        refine allFrom_cons ?_ ?_
        · intro a_ w_ hk_
          have h86 : a_.eval (.tmp 86) = (.bool true) := hk_.got 6 86 _ (by kernel_rfl) rfl rfl
          have hx_ := hk_.ext
          clear hk_
          refine flow_plain rfl ?_
          exact gives_move rfl ⟨Below.refl _ _, h86⟩
        refine allFrom_cons ?_ ?_
        · intro a_ w_ hk_
          have h26 : a_.eval (.tmp 26) = .bool true := hk_.old 26 (by kernel_rfl)
          have hg_ : a_.eval (.tmp 87) = .bool true := hk_.got 7 87 _ (by kernel_rfl) rfl rfl
          have hy_ := hk_.want 7 _ 87 true rfl rfl hg_
          have hx_ := hk_.ext
          clear hk_
          refine flow_want rfl hy_ ?_
          exact gives_move rfl ⟨Below.refl _ _, h26⟩
        refine allFrom_cons ?_ ?_
        · intro a_ w_ hk_
          have h88 : a_.eval (.tmp 88) = (.bool true) := hk_.got 8 88 _ (by kernel_rfl) rfl rfl
          have hg_ : a_.eval (.tmp 87) = .bool true := hk_.got 7 87 _ (by kernel_rfl) rfl rfl
          have hy_ := hk_.want 7 _ 87 true rfl rfl hg_
          have hx_ := hk_.ext
          clear hk_
          refine flow_want rfl hy_ ?_
          unfold gives
          have hc_ : ∀ v, a_.eval (.const v) = v := fun _ => rfl
          have hn_ : ∀ f, a_.eval (.func f) = .func (.func f) #[] #[] := fun _ => rfl
          clear hy_ hg_
          generalize a_.eval = ρ_ at *
          go_simp
          exact ⟨Below.refl _ _, rfl⟩
        refine allFrom_cons ?_ ?_
        · intro a_ w_ hk_
          have h89 : a_.eval (.tmp 89) = (.bool false) := hk_.got 9 89 _ (by kernel_rfl) rfl rfl
          have hg_ : a_.eval (.tmp 87) = .bool true := hk_.got 7 87 _ (by kernel_rfl) rfl rfl
          have hy_ := hk_.want 7 _ 87 true rfl rfl hg_
          have hx_ := hk_.ext
          clear hk_
          refine flow_want rfl hy_ ?_
          exact gives_move rfl ⟨Below.refl _ _, h89⟩
        refine allFrom_cons ?_ ?_
        · intro a_ w_ hk_
          have h22 : a_.eval (.tmp 22) = .int .i64 (wi % 4) := hk_.old 22 (by kernel_rfl)
          have hg_ : a_.eval (.tmp 90) = .bool false := hk_.got 10 90 _ (by kernel_rfl) rfl rfl
          have hy_ := hk_.want 10 _ 90 false rfl rfl hg_
          have hx_ := hk_.ext
          clear hk_
          refine flow_want rfl hy_ ?_
          exact gives_move rfl ⟨Below.refl _ _, h22⟩
        refine allFrom_cons ?_ ?_
        · intro a_ w_ hk_
          have h25 : a_.eval (.tmp 25) = .pointer (some ⟨g25, 0, none⟩) := hk_.old 25 (by kernel_rfl)
          have hg_ : a_.eval (.tmp 90) = .bool false := hk_.got 10 90 _ (by kernel_rfl) rfl rfl
          have hy_ := hk_.want 10 _ 90 false rfl rfl hg_
          have hx_ := hk_.ext
          clear hk_
          refine flow_want rfl hy_ ?_
          exact gives_ldC rfl h25 (aggCl _ _) (blk_cells (hbk2.below hx_ hbk2.lt)) ⟨Below.refl _ _, rfl⟩
        refine allFrom_cons ?_ ?_
        · intro a_ w_ hk_
          have h91 : a_.eval (.tmp 91) = (.int .i64 (wi % 4)) := hk_.got 11 91 _ (by kernel_rfl) rfl rfl
          have h92 : a_.eval (.tmp 92) = (.agg #[.slice A3 rc.length d3, .slice A4 rd.length d4]) := hk_.got 12 92 _ (by kernel_rfl) rfl rfl
          have hg_ : a_.eval (.tmp 90) = .bool false := hk_.got 10 90 _ (by kernel_rfl) rfl rfl
          have hy_ := hk_.want 10 _ 90 false rfl rfl hg_
          have hx_ := hk_.ext
          clear hk_
          refine flow_want rfl hy_ ?_
          unfold gives
          have hc_ : ∀ v, a_.eval (.const v) = v := fun _ => rfl
          have hn_ : ∀ f, a_.eval (.func f) = .func (.func f) #[] #[] := fun _ => rfl
          clear hy_ hg_
          generalize a_.eval = ρ_ at *
          go_simp
          exact (HK2.out w_ hx_).mono fun e w' hh => ⟨_, hh.1, hh.2, rfl⟩
        refine allFrom_cons ?_ ?_
        · intro a_ w_ hk_
          have h90 : a_.eval (.tmp 90) = (.bool false) := hk_.got 10 90 _ (by kernel_rfl) rfl rfl
          have h93 : a_.eval (.tmp 93) = (.bool true) := hk_.got 13 93 _ (by kernel_rfl) rfl rfl
          have hg_ : a_.eval (.tmp 87) = .bool true := hk_.got 7 87 _ (by kernel_rfl) rfl rfl
          have hy_ := hk_.want 7 _ 87 true rfl rfl hg_
          have hx_ := hk_.ext
          clear hk_
          refine flow_want rfl hy_ ?_
          exact gives_pick rfl h90 ⟨Below.refl _ _, h93⟩
        refine allFrom_cons ?_ ?_
        · intro a_ w_ hk_
          have h87 : a_.eval (.tmp 87) = (.bool true) := hk_.got 7 87 _ (by kernel_rfl) rfl rfl
          have h94 : a_.eval (.tmp 94) = (.bool true) := hk_.got 14 94 _ (by kernel_rfl) rfl rfl
          have hx_ := hk_.ext
          clear hk_
          refine flow_plain rfl ?_
          exact gives_pick rfl h87 ⟨Below.refl _ _, h94⟩
        refine allFrom_cons ?_ ?_
        · intro a_ w_ hk_
          have h95 : a_.eval (.tmp 95) = (.bool true) := hk_.got 15 95 _ (by kernel_rfl) rfl rfl
          have hx_ := hk_.ext
          clear hk_
          refine flow_plain rfl ?_
          exact gives_assign rfl ⟨Below.refl _ _, h95⟩
        exact allFrom_nil
      intro f_ w_ hx_ hf_
      have h80 : f_ 80 = (.bool false) := hf_ 0 80 _ (by decide) rfl rfl
      have h81 : f_ 81 = (.bool true) := hf_ 1 81 _ (by decide) rfl rfl
      have h82 : f_ 82 = (.bool true) := hf_ 2 82 _ (by decide) rfl rfl
      have h86 : f_ 86 = (.bool true) := hf_ 6 86 _ (by decide) rfl rfl
      have h87 : f_ 87 = (.bool true) := hf_ 7 87 _ (by decide) rfl rfl
      have h88 : f_ 88 = (.bool true) := hf_ 8 88 _ (by decide) rfl rfl
      have h89 : f_ 89 = (.bool false) := hf_ 9 89 _ (by decide) rfl rfl
      have h90 : f_ 90 = (.bool false) := hf_ 10 90 _ (by decide) rfl rfl
      have h91 : f_ 91 = (.int .i64 (wi % 4)) := hf_ 11 91 _ (by decide) rfl rfl
      have h92 : f_ 92 = (.agg #[.slice A3 rc.length d3, .slice A4 rd.length d4]) := hf_ 12 92 _ (by decide) rfl rfl
      have h93 : f_ 93 = (.bool true) := hf_ 13 93 _ (by decide) rfl rfl
      have h94 : f_ 94 = (.bool true) := hf_ 14 94 _ (by decide) rfl rfl
      have h95 : f_ 95 = (.bool true) := hf_ 15 95 _ (by decide) rfl rfl
      have h20 : f_ 20 = (.bool true) := hf_ 16 20 _ (by decide) rfl rfl
      simp only [mix, h80, h81, h82, h86, h87, h88, h89, h90, h91, h92, h93, h94, h95, h20]
      clear h80 h81 h82 h86 h87 h88 h89 h90 h91 h92 h93 h94 h95 h20
      clear hf_
      have hbf := bx_trans hb05 hx_
      clear hx_
      go_wp2_with fail
      go_ret
      exact ⟨rfl, hbf⟩
    | false =>
      clear hB1 hB2
      refine wp_region_lit ?_
      refine wp_flowSE [0, 1, 3, 7, 15, 31, 63, 127, 255, 511, 1023, 2047, 4095, 8191, 16383, 32767, 65535] 17 [false, false, false, false, false, false, false, false, false, false, false, false, false, false, false, false, false, false, false, false, true, false, false, false, false, false, false, false, false, false, false, false, false, false, false, false, false, false, false, false, false, false, false, false, false, false, false, false, false, false, false, false, false, false, false, false, false, false, false, false, false, false, false, false, false, false, false, false, false, false, false, false, false, false, false, false, false, false, false, false, true, true, true, true, true, true, true, true, true, true, true, true, true, true, true, true] (by kernel_rfl) (by kernel_rfl) (by kernel_rfl) [FP.eq (.bool false), FP.eq (.bool true), FP.eq (.bool true), FP.any, FP.any, FP.any, FP.eq (.bool true), FP.eq (.bool true), FP.eq (.bool false), FP.eq (.bool true), FP.eq (.bool true), FP.any, FP.any, FP.any, FP.eq (.bool true), FP.eq (.bool true), FP.eq (.bool true)] ?_ ?_
      · refine allFrom_cons ?_ ?_
        · intro a_ w_ hk_
          have h24 : a_.eval (.tmp 24) = .bool false := hk_.old 24 (by kernel_rfl)
          have hx_ := hk_.ext
          clear hk_
          refine flow_plain rfl ?_
          exact gives_move rfl ⟨Below.refl _ _, h24⟩
        refine allFrom_cons ?_ ?_
        · intro a_ w_ hk_
          have h80 : a_.eval (.tmp 80) = (.bool false) := hk_.got 0 80 _ (by kernel_rfl) rfl rfl
          have hx_ := hk_.ext
          clear hk_
          refine flow_plain rfl ?_
          unfold gives
          have hc_ : ∀ v, a_.eval (.const v) = v := fun _ => rfl
          have hn_ : ∀ f, a_.eval (.func f) = .func (.func f) #[] #[] := fun _ => rfl
          generalize a_.eval = ρ_ at *
          go_simp
          exact ⟨Below.refl _ _, rfl⟩
        refine allFrom_cons ?_ ?_
        · intro a_ w_ hk_
          have h81 : a_.eval (.tmp 81) = (.bool true) := hk_.got 1 81 _ (by kernel_rfl) rfl rfl
          have hx_ := hk_.ext
          clear hk_
          refine flow_plain rfl ?_
          exact gives_move rfl ⟨Below.refl _ _, h81⟩
        refine allFrom_cons ?_ ?_
        · intro a_ w_ hk_
          have h22 : a_.eval (.tmp 22) = .int .i64 (wi % 4) := hk_.old 22 (by kernel_rfl)
          have hg_ : a_.eval (.tmp 82) = .bool true := hk_.got 2 82 _ (by kernel_rfl) rfl rfl
          have hy_ := hk_.want 2 _ 82 true rfl rfl hg_
          have hx_ := hk_.ext
          clear hk_
          exact flow_skip rfl hy_ (by decide) trivial
        refine allFrom_cons ?_ ?_
        · intro a_ w_ hk_
          have h23 : a_.eval (.tmp 23) = .pointer (some ⟨g23, 0, none⟩) := hk_.old 23 (by kernel_rfl)
          have hg_ : a_.eval (.tmp 82) = .bool true := hk_.got 2 82 _ (by kernel_rfl) rfl rfl
          have hy_ := hk_.want 2 _ 82 true rfl rfl hg_
          have hx_ := hk_.ext
          clear hk_
          exact flow_skip rfl hy_ (by decide) trivial
        refine allFrom_cons ?_ ?_
        · intro a_ w_ hk_
          have hg_ : a_.eval (.tmp 82) = .bool true := hk_.got 2 82 _ (by kernel_rfl) rfl rfl
          have hy_ := hk_.want 2 _ 82 true rfl rfl hg_
          have hx_ := hk_.ext
          clear hk_
          exact flow_skip rfl hy_ (by decide) trivial
        refine allFrom_cons ?_ ?_
        · intro a_ w_ hk_
          have h82 : a_.eval (.tmp 82) = (.bool true) := hk_.got 2 82 _ (by kernel_rfl) rfl rfl
          have hx_ := hk_.ext
          clear hk_
          refine flow_plain rfl ?_
          exact gives_pick rfl h82 ⟨Below.refl _ _, rfl⟩
        refine allFrom_cons ?_ ?_
        · intro a_ w_ hk_
          have h86 : a_.eval (.tmp 86) = (.bool true) := hk_.got 6 86 _ (by kernel_rfl) rfl rfl
          have hx_ := hk_.ext
          clear hk_
          refine flow_plain rfl ?_
          exact gives_move rfl ⟨Below.refl _ _, h86⟩
        refine allFrom_cons ?_ ?_
        · intro a_ w_ hk_
          have h26 : a_.eval (.tmp 26) = .bool false := hk_.old 26 (by kernel_rfl)
          have hg_ : a_.eval (.tmp 87) = .bool true := hk_.got 7 87 _ (by kernel_rfl) rfl rfl
          have hy_ := hk_.want 7 _ 87 true rfl rfl hg_
          have hx_ := hk_.ext
          clear hk_
          refine flow_want rfl hy_ ?_
          exact gives_move rfl ⟨Below.refl _ _, h26⟩
        refine allFrom_cons ?_ ?_
        · intro a_ w_ hk_
          have h88 : a_.eval (.tmp 88) = (.bool false) := hk_.got 8 88 _ (by kernel_rfl) rfl rfl
          have hg_ : a_.eval (.tmp 87) = .bool true := hk_.got 7 87 _ (by kernel_rfl) rfl rfl
          have hy_ := hk_.want 7 _ 87 true rfl rfl hg_
          have hx_ := hk_.ext
          clear hk_
          refine flow_want rfl hy_ ?_
          unfold gives
          have hc_ : ∀ v, a_.eval (.const v) = v := fun _ => rfl
          have hn_ : ∀ f, a_.eval (.func f) = .func (.func f) #[] #[] := fun _ => rfl
          clear hy_ hg_
          generalize a_.eval = ρ_ at *
          go_simp
          exact ⟨Below.refl _ _, rfl⟩
        refine allFrom_cons ?_ ?_
        · intro a_ w_ hk_
          have h89 : a_.eval (.tmp 89) = (.bool true) := hk_.got 9 89 _ (by kernel_rfl) rfl rfl
          have hg_ : a_.eval (.tmp 87) = .bool true := hk_.got 7 87 _ (by kernel_rfl) rfl rfl
          have hy_ := hk_.want 7 _ 87 true rfl rfl hg_
          have hx_ := hk_.ext
          clear hk_
          refine flow_want rfl hy_ ?_
          exact gives_move rfl ⟨Below.refl _ _, h89⟩
        refine allFrom_cons ?_ ?_
        · intro a_ w_ hk_
          have h22 : a_.eval (.tmp 22) = .int .i64 (wi % 4) := hk_.old 22 (by kernel_rfl)
          have hg_ : a_.eval (.tmp 90) = .bool true := hk_.got 10 90 _ (by kernel_rfl) rfl rfl
          have hy_ := hk_.want 10 _ 90 true rfl rfl hg_
          have hx_ := hk_.ext
          clear hk_
          exact flow_skip rfl hy_ (by decide) trivial
        refine allFrom_cons ?_ ?_
        · intro a_ w_ hk_
          have h25 : a_.eval (.tmp 25) = .pointer (some ⟨g25, 0, none⟩) := hk_.old 25 (by kernel_rfl)
          have hg_ : a_.eval (.tmp 90) = .bool true := hk_.got 10 90 _ (by kernel_rfl) rfl rfl
          have hy_ := hk_.want 10 _ 90 true rfl rfl hg_
          have hx_ := hk_.ext
          clear hk_
          exact flow_skip rfl hy_ (by decide) trivial
        refine allFrom_cons ?_ ?_
        · intro a_ w_ hk_
          have hg_ : a_.eval (.tmp 90) = .bool true := hk_.got 10 90 _ (by kernel_rfl) rfl rfl
          have hy_ := hk_.want 10 _ 90 true rfl rfl hg_
          have hx_ := hk_.ext
          clear hk_
          exact flow_skip rfl hy_ (by decide) trivial
        refine allFrom_cons ?_ ?_
        · intro a_ w_ hk_
          have h90 : a_.eval (.tmp 90) = (.bool true) := hk_.got 10 90 _ (by kernel_rfl) rfl rfl
          have hg_ : a_.eval (.tmp 87) = .bool true := hk_.got 7 87 _ (by kernel_rfl) rfl rfl
          have hy_ := hk_.want 7 _ 87 true rfl rfl hg_
          have hx_ := hk_.ext
          clear hk_
          refine flow_want rfl hy_ ?_
          exact gives_pick rfl h90 ⟨Below.refl _ _, rfl⟩
        refine allFrom_cons ?_ ?_
        · intro a_ w_ hk_
          have h87 : a_.eval (.tmp 87) = (.bool true) := hk_.got 7 87 _ (by kernel_rfl) rfl rfl
          have h94 : a_.eval (.tmp 94) = (.bool true) := hk_.got 14 94 _ (by kernel_rfl) rfl rfl
          have hx_ := hk_.ext
          clear hk_
          refine flow_plain rfl ?_
          exact gives_pick rfl h87 ⟨Below.refl _ _, h94⟩
        refine allFrom_cons ?_ ?_
        · intro a_ w_ hk_
          have h95 : a_.eval (.tmp 95) = (.bool true) := hk_.got 15 95 _ (by kernel_rfl) rfl rfl
          have hx_ := hk_.ext
          clear hk_
          refine flow_plain rfl ?_
          exact gives_assign rfl ⟨Below.refl _ _, h95⟩
        exact allFrom_nil
      intro f_ w_ hx_ hf_
      have h80 : f_ 80 = (.bool false) := hf_ 0 80 _ (by decide) rfl rfl
      have h81 : f_ 81 = (.bool true) := hf_ 1 81 _ (by decide) rfl rfl
      have h82 : f_ 82 = (.bool true) := hf_ 2 82 _ (by decide) rfl rfl
      have h86 : f_ 86 = (.bool true) := hf_ 6 86 _ (by decide) rfl rfl
      have h87 : f_ 87 = (.bool true) := hf_ 7 87 _ (by decide) rfl rfl
      have h88 : f_ 88 = (.bool false) := hf_ 8 88 _ (by decide) rfl rfl
      have h89 : f_ 89 = (.bool true) := hf_ 9 89 _ (by decide) rfl rfl
      have h90 : f_ 90 = (.bool true) := hf_ 10 90 _ (by decide) rfl rfl
      have h94 : f_ 94 = (.bool true) := hf_ 14 94 _ (by decide) rfl rfl
      have h95 : f_ 95 = (.bool true) := hf_ 15 95 _ (by decide) rfl rfl
      have h20 : f_ 20 = (.bool true) := hf_ 16 20 _ (by decide) rfl rfl
      simp only [mix, h80, h81, h82, h86, h87, h88, h89, h90, h94, h95, h20]
      clear h80 h81 h82 h86 h87 h88 h89 h90 h94 h95 h20
      clear hf_
      have hbf := bx_trans hb05 hx_
      clear hx_
      go_wp2_with fail
      go_ret
      exact ⟨rfl, hbf⟩
end Go.Proofs.YtgaefejblmnklaaDoor
