
/- ClashWide: its walk. -/
import Derived.Test.YtgaefejblmnklaaDoorClST
import Derived.OpenShut
namespace Go.Proofs.YtgaefejblmnklaaDoor
open Go.RowKit
set_option linter.unusedVariables false
theorem finV_made {size i : Nat} {en : List UInt8} {path : List (List UInt8)} (h : i < size) : finV (rowsH 32 size i en path) (shaL (0 :: en)) (flg size i).reverse path = rowsE size i path.length := by
  have := verT_made (size := size) (i := i) (en := en) (path := path)
  unfold verT at this
  rwa [if_neg (by omega)] at this
set_option maxRecDepth 100000 in
set_option maxHeartbeats 8000000 in
theorem ClashWide_walk (w : World) (hLC : LaidC w) (s0 : Int) (hs0 : (Lit.int .u8 s0).wf = true) (i0 : Int) (hi0 : (Lit.int .u8 i0).wf = true)
    (Aa : Option Addr) (ca : Nat) (a : List UInt8) (hca : a.length ≤ ca) (hma : ca ≤ maxLen) (hra : Rd w w.heap.size Aa (a.map cb)) (Ap : Option Addr) (cp : Nat) (P : List (List UInt8)) (hcp : P.length ≤ cp) (hmp : cp ≤ maxLen) (h32 : ∀ x ∈ P, x.length = 32) (hrp : Rd w w.heap.size Ap (P.flatten.map cb))
    (m0 : Int) (hm0 : (Lit.int .u8 m0).wf = true) (root : List UInt8) (hro : root.length = 32) :
    Calls Tryd.prog 6 #[.int .u8 s0, .int .u8 i0, .slice Aa a.length ca, .slice Ap P.length cp, .int .u8 m0, .agg (root.map cb).toArray] w fun e w' => e = .returned (.bool true) ∧ Below w.heap.size w w' := by
  have hbs := bounds_u8 hs0
  have hbi := bounds_u8 hi0
  have hbm := bounds_u8 hm0
  unfold maxLen at hmp
  obtain ⟨pl, hpl⟩ : ∃ pl, pl = P.length := ⟨_, rfl⟩
  rw [← hpl] at hcp ⊢
  obtain ⟨q, hq⟩ : ∃ q : Nat, s0 % 30 = (q : Int) := ⟨(s0 % 30).toNat, by omega⟩
  have hq30 : q < 30 := by omega
  obtain ⟨n, hn⟩ : ∃ n : Nat, (q : Int) + 1 = (n : Int) := ⟨q + 1, by omega⟩
  have hn1 : 1 ≤ n := by omega
  have hn30 : n ≤ 30 := by omega
  have hn0 : ¬ (n : Int) = 0 := by omega
  have hnp : (0 : Int) < (n : Int) := by omega
  obtain ⟨k, hk⟩ : ∃ k : Nat, i0 % (n : Int) = (k : Int) := ⟨(i0 % (n : Int)).toNat, by have := Int.emod_nonneg i0 (b := (n : Int)) (by omega); omega⟩
  have hkn : k < n := by have := Int.emod_lt_of_pos i0 hnp; omega
  obtain ⟨m1, hm1⟩ : ∃ m1 : Nat, m0 % (n : Int) = (m1 : Int) := ⟨(m0 % (n : Int)).toNat, by have := Int.emod_nonneg m0 (b := (n : Int)) (by omega); omega⟩
  have hm1n : m1 < n := by have := Int.emod_lt_of_pos m0 hnp; omega
  obtain ⟨m, hm⟩ : ∃ m : Nat, (m1 : Int) + 1 = (m : Int) := ⟨m1 + 1, by omega⟩
  have hmn : m < 18446744073709551616 := by omega
  have hnn : n < 18446744073709551616 := by omega
  have HLC := hid hLC
  have HL := hid hLC.sha
  have HRA := hid hra
  have HRP := hid hrp
  have H32 := hid h32
  have HPL := hid hpl
  have hk0 : Blk (w.alloc (.cells (root.map cb).toArray tH)) w.heap.size tH (root.map cb).toArray := Blk.new w _ _
  have hb0 : Below w.heap.size w (w.alloc (.cells (root.map cb).toArray tH)) := bx_alloc (Below.refl _ _) _
  clear hLC hra hrp h32 hpl hs0 hi0 hm0 hma
  go_enter Tryd.func6, Tryd.ntmps6
  rw [hold 13]
  go_wp2_with fail
  refine (clAwake _ (HL.out.below hb0)).mono ?_
  rintro e w1 ⟨rfl, hb1⟩
  have hb01 := bx_trans hb0 hb1
  have hk1 := hk0.below hb1 hk0.lt
  clear hk0 hb0 hb1
  by_cases g1 : 60 < a.length
  · go_wp2_with fail
    go_ret
    exact ⟨rfl, hb01⟩
  by_cases g2 : 10 < pl
  · go_wp2_with fail
    go_ret
    exact ⟨rfl, hb01⟩
  have HMD := hid (Made_any w1 (HL.out.below hb01) 32 (size := n) (i := k) hnn (ce := ca) ((HRA.out.below hb01).more hb01.size) hca (by omega) (c := cp) HPL.out.symm H32.out ((HRP.out.below hb01).more hb01.size) (by omega))
  go_wp2_with fail
  refine HMD.out.mono ?_
  rintro e w2 ⟨rfl, hb2⟩
  have hb02 := bx_trans hb01 hb2
  have hk2 := hk1.below hb2 hk1.lt
  have hHl := rowsH_len 32 n k a P
  have hfin := finV_made (en := a) (path := P) hkn
  have HVF := hid (fun (W : World) (hb : Below w.heap.size w W) => VerifyT_in W (HL.out.below hb) (root := rowsH 32 n k a P) (rowsH_len 32 n k a P) hnn hkn (ce := ca) ((HRA.out.below hb).more hb.size) hca (by omega) (c := cp) HPL.out.symm H32.out ((HRP.out.below hb).more hb.size) (by omega))
  rw [hfin, ← HPL.out] at HVF
  generalize rowsE n k pl = E at *
  generalize rowsH 32 n k a P = H at *
  clear HMD hk1 hb01 hb2 hfin
  go_wp2_with (first
    | ((with_reducible refine wpAtC ?_); refine wpList_alloc (w := w2) rfl _ rfl zeroH ?_; intro g16 w3 hg16 hg16' hz16 hb3; simp only [Act.put, List.setIfInBounds_toArray, List.set_cons_succ, List.set_cons_zero])
    | ((with_reducible refine wpAtC ?_); refine wpList_store_agg rfl _ _ _ rfl _ _ rfl (H.map cb).toArray rfl (aggHS hHl) hz16 (szH hHl) (one_cbA _) ?_; intro w4 hp4; simp only [Act.put]; rw [splH hHl] at hp4; have ch4 := blk_cells hp4.blk; have hah := aggHL hHl)
    | ((with_reducible refine wpAtC ?_); refine wpList_load_agg rfl _ _ rfl _ _ rfl (H.map cb) hah ch4 ?_; simp only [Act.put, List.setIfInBounds_toArray, List.set_cons_succ, List.set_cons_zero]))
  have hb24 := bx_put hb3 hp4 hg16
  have hb04 := bx_trans hb02 hb24
  have hk4 := hk2.below hb24 hk2.lt
  clear hk2 hb3 hz16 hp4 hb24 hb02 ch4 hah hg16'
  refine (HVF.out w4 hb04).mono ?_
  rintro e w5 ⟨rfl, hb5⟩
  have hb05 := bx_trans hb04 hb5
  have hk5 := hk4.below hb5 hk4.lt
  have har := aggHL hro
  clear hk4 hb04 hb5 HVF
  go_wp2_with fail
  have hwm : IntKind.u64.wrap m0 = m0 := by simp only [IntKind.wrap, IntKind.bits, IntKind.signed]; simp; omega
  have htm : m0.tmod (n : Int) = (m1 : Int) := by rw [Int.tmod_eq_emod_of_nonneg hbm.1]; exact hm1
  have hwp : IntKind.u64.wrap (m : Int) = (m : Int) := wrap_u64_of hmn
  have hnz : ¬ n = 0 := by omega
  refine wp_flow (by kernel_rfl) [0, 1, 0, 7, 15, 0, 63, 0, 255] 8 [false, false, false, false, false, false, false, false, false, false, false, false, false, false, false, false, false, false, false, true, false, false, false, false, false, false, false, false, false, false, false, false, false, false, false, false, false, false, false, false, false, false, false, false, false, false, false, false, false, false, false, false, false, false, false, false, false, true, true, true, true, true, true, true] (by kernel_rfl) (by decide) (by kernel_rfl) [FP.eq (.int .u8 m0), FP.eq (.int .u64 m0), FP.eq (.int .u64 (n : Int)), FP.eq (.int .u64 (m1 : Int)), FP.eq (.int .u64 (m : Int)), FP.eq (.agg (root.map cb).toArray), FP.eq (.agg (kcell m root).toArray), FP.new w5.heap.size tKy (Value.agg (kcell 0 (List.replicate 32 0)).toArray).cells] ?_ ?_
  · refine allFrom_cons ?_ ?_
    · intro a_ w_ hk_
      have h4 : a_.eval (.tmp 4) = .int .u8 m0 := hk_.old 4 (by kernel_rfl)
      have hx_ := hk_.ext
      clear hk_
      refine flow_plain rfl ?_
      exact gives_move rfl ⟨Below.refl _ _, h4⟩
    refine allFrom_cons ?_ ?_
    · intro a_ w_ hk_
      have h57 : a_.eval (.tmp 57) = (.int .u8 m0) := hk_.got 0 57 _ (by kernel_rfl) rfl rfl
      have hx_ := hk_.ext
      clear hk_
      refine flow_plain rfl ?_
      unfold gives
      have hc_ : ∀ v, a_.eval (.const v) = v := fun _ => rfl
      have hn_ : ∀ f, a_.eval (.func f) = .func (.func f) #[] #[] := fun _ => rfl
      generalize a_.eval = ρ_ at *
      go_simp
      exact ⟨Below.refl _ _, rfl⟩
    refine allFrom_cons ?_ ?_
    · intro a_ w_ hk_
      have h14 : a_.eval (.tmp 14) = .int .u64 (n : Int) := hk_.old 14 (by kernel_rfl)
      have hx_ := hk_.ext
      clear hk_
      refine flow_plain rfl ?_
      exact gives_move rfl ⟨Below.refl _ _, h14⟩
    refine allFrom_cons ?_ ?_
    · intro a_ w_ hk_
      have h58 : a_.eval (.tmp 58) = (.int .u64 m0) := hk_.got 1 58 _ (by kernel_rfl) rfl rfl
      have h59 : a_.eval (.tmp 59) = (.int .u64 (n : Int)) := hk_.got 2 59 _ (by kernel_rfl) rfl rfl
      have hx_ := hk_.ext
      clear hk_
      refine flow_plain rfl ?_
      unfold gives
      have hc_ : ∀ v, a_.eval (.const v) = v := fun _ => rfl
      have hn_ : ∀ f, a_.eval (.func f) = .func (.func f) #[] #[] := fun _ => rfl
      generalize a_.eval = ρ_ at *
      go_simp
      exact ⟨Below.refl _ _, rfl⟩
    refine allFrom_cons ?_ ?_
    · intro a_ w_ hk_
      have h60 : a_.eval (.tmp 60) = (.int .u64 (m1 : Int)) := hk_.got 3 60 _ (by kernel_rfl) rfl rfl
      have hx_ := hk_.ext
      clear hk_
      refine flow_plain rfl ?_
      unfold gives
      have hc_ : ∀ v, a_.eval (.const v) = v := fun _ => rfl
      have hn_ : ∀ f, a_.eval (.func f) = .func (.func f) #[] #[] := fun _ => rfl
      generalize a_.eval = ρ_ at *
      go_simp
      exact ⟨Below.refl _ _, rfl⟩
    refine allFrom_cons ?_ ?_
    · intro a_ w_ hk_
      have h11 : a_.eval (.tmp 11) = .pointer (some ⟨w.heap.size, 0, none⟩) := hk_.old 11 (by kernel_rfl)
      have hx_ := hk_.ext
      clear hk_
      refine flow_plain rfl ?_
      exact gives_ldC rfl h11 har (blk_cells (hk5.below hx_ hk5.lt)) ⟨Below.refl _ _, rfl⟩
    refine allFrom_cons ?_ ?_
    · intro a_ w_ hk_
      have h61 : a_.eval (.tmp 61) = (.int .u64 (m : Int)) := hk_.got 4 61 _ (by kernel_rfl) rfl rfl
      have h62 : a_.eval (.tmp 62) = (.agg (root.map cb).toArray) := hk_.got 5 62 _ (by kernel_rfl) rfl rfl
      have hx_ := hk_.ext
      clear hk_
      refine flow_plain rfl ?_
      exact gives_buildKy rfl h61 h62 hro ⟨Below.refl _ _, rfl⟩
    refine allFrom_cons ?_ ?_
    · intro a_ w_ hk_
      have hx_ := hk_.ext
      clear hk_
      refine flow_plain rfl ?_
      exact gives_val (gives_alloc_run _ rfl zeroKy) (new_new hx_.size)
    exact allFrom_nil
  intro f_ w_ hx_ hf_
  have h57 : f_ 57 = (.int .u8 m0) := hf_ 0 57 _ (by decide) rfl rfl
  have h58 : f_ 58 = (.int .u64 m0) := hf_ 1 58 _ (by decide) rfl rfl
  have h59 : f_ 59 = (.int .u64 (n : Int)) := hf_ 2 59 _ (by decide) rfl rfl
  have h60 : f_ 60 = (.int .u64 (m1 : Int)) := hf_ 3 60 _ (by decide) rfl rfl
  have h61 : f_ 61 = (.int .u64 (m : Int)) := hf_ 4 61 _ (by decide) rfl rfl
  have h62 : f_ 62 = (.agg (root.map cb).toArray) := hf_ 5 62 _ (by decide) rfl rfl
  have h63 : f_ 63 = (.agg (kcell m root).toArray) := hf_ 6 63 _ (by decide) rfl rfl
  have h19 : (FP.new w5.heap.size tKy (Value.agg (kcell 0 (List.replicate 32 0)).toArray).cells).p (f_ 19) w_ := hf_ 7 19 _ (by decide) rfl rfl
  simp only [mix, List.drop_succ_cons, List.drop_zero, h57, h58, h59, h60, h61, h62, h63]
  clear h57 h58 h59 h60 h61 h62 h63
  clear hf_
  obtain ⟨g19, e19, hg19, hbk19⟩ := h19
  rw [e19]
  clear e19
  rename World => w6
  have hb06 := bx_trans hb05 hx_
  have hk6 := hk5.below hx_ hk5.lt
  have hk5l := hk5.lt
  have hk0l := zeroL_len
  have hszk := szKy m 0 hro (h' := List.replicate 32 0) (by simp)
  have hspk := splKy m 0 hro (h' := List.replicate 32 0) (by simp)
  have hakS := aggKyS m hro
  have hak := aggKy m hro
  have hg19w : w.heap.size ≤ g19 := Nat.le_trans hb05.size hg19
  have HCD := hid (fun (W : World) (hb : Below w.heap.size w W) => Chained_any W (HL.out.below hb) 32 hmn hnn hro (c := cp) (path := P) HPL.out.symm H32.out ((HRP.out.below hb).more hb.size) hcp (by omega) (by omega))
  obtain ⟨hXl, hYl⟩ := chainedL_hash (wide := 32) (m := m) (n := n) hro H32.out
  have HVC := hid (fun (W : World) (hb : Below w.heap.size w W) => Verify_any W (HLC.out.below hb) m n pl cp Ap root (chainedL 32 m n root P).2.2 P HPL.out.symm hmn hnn hro hYl H32.out ((HRP.out.below hb).more hb.size) hcp (by omega) (by omega))
  have hver := verL_chained (m := m) (n := n) (old := root) (path := P)
  rw [hver] at HVC
  rw [← HPL.out] at HVC
  clear hver
  generalize chainedE m n pl = G at *
  obtain ⟨X, hXe⟩ : ∃ X, X = (chainedL 32 m n root P).2.1 := ⟨_, rfl⟩
  obtain ⟨Y, hYe⟩ : ∃ Y, Y = (chainedL 32 m n root P).2.2 := ⟨_, rfl⟩
  rw [← hXe] at hXl HCD HVC
  rw [← hYe] at hYl HCD HVC
  obtain ⟨J, hJ⟩ : ∃ J : Int, J = if G = 0 then (if X = root then 0 else 20) else G := ⟨_, rfl⟩
  rw [← hJ] at HVC
  have HJ := hid hJ
  clear hJ
  clear hXe hYe hx_ hk5 hb05 hwm htm hwp hnz
  go_wp2_with (first
    | ((with_reducible refine wpAtC ?_); refine wpList_store_agg rfl _ _ _ rfl _ _ rfl (kcell m root).toArray rfl hakS hbk19 hszk (oneKy m root) ?_; intro w7 hp7; simp only [Act.put]; rw [hspk] at hp7; have ck7 := blk_cells hp7.blk)
    | ((with_reducible refine wpAtC ?_); refine wpList_load_agg rfl _ _ rfl _ _ rfl (kcell m root) hak ck7 ?_; simp only [Act.put, List.setIfInBounds_toArray, List.set_cons_succ, List.set_cons_zero]))
  have hb07 := bx_put hb06 hp7 hg19w
  have hk7 := hp7.other hk6 (by omega)
  have hkk7 := hp7.blk
  clear hk6 hb06 hbk19 hp7 ck7 hszk hspk hakS
  refine (HCD.out w7 hb07).mono ?_
  rintro e w8 ⟨rfl, hb8⟩
  have hb08 := bx_trans hb07 hb8
  have hk8 := hk7.below hb8 hk7.lt
  have hkk8 := hkk7.below hb8 hkk7.lt
  clear hk7 hkk7 hb8 hb07 HCD
  go_wp2_with (first
    | ((with_reducible refine wpAtC ?_); refine wpList_alloc (w := w8) rfl _ rfl zeroH ?_; intro g20 w9 hg20 hg20' hz20 hb9; simp only [Act.put, List.setIfInBounds_toArray, List.set_cons_succ, List.set_cons_zero])
    | ((with_reducible refine wpAtC ?_); refine wpList_alloc (w := w9) rfl _ rfl zeroH ?_; intro g21 w10 hg21 hg21' hz21 hb10; simp only [Act.put, List.setIfInBounds_toArray, List.set_cons_succ, List.set_cons_zero]; have hz20b := hz20.below hb10 hz20.lt)
    | ((with_reducible refine wpAtC ?_); refine wpList_store_agg rfl _ _ _ rfl _ _ rfl (X.map cb).toArray rfl (aggHS hXl) hz20b (szH hXl) (one_cbA _) ?_; intro w11 hp11; simp only [Act.put]; rw [splH hXl] at hp11; have hz21b := hp11.other hz21 (by omega))
    | ((with_reducible refine wpAtC ?_); refine wpList_store_agg rfl _ _ _ rfl _ _ rfl (Y.map cb).toArray rfl (aggHS hYl) hz21b (szH hYl) (one_cbA _) ?_; intro w12 hp12; simp only [Act.put]; rw [splH hYl] at hp12; have hb810 := bx_put (bx_put (bx_trans hb9 hb10) hp11 hg20) hp12 (Nat.le_trans hb9.size hg21); have hx20 := hp12.other hp11.blk (by omega); have hkk12 := hkk8.below hb810 hkk8.lt; have ck12 := blk_cells hkk12; have cy12 := blk_cells hp12.blk; have hay := aggHL hYl)
    | ((with_reducible refine wpAtC ?_); refine wpList_load_agg rfl _ _ rfl _ _ rfl (kcell m root) hak ck12 ?_; simp only [Act.put, List.setIfInBounds_toArray, List.set_cons_succ, List.set_cons_zero])
    | ((with_reducible refine wpAtC ?_); refine wpList_load_agg rfl _ _ rfl _ _ rfl (Y.map cb) hay cy12 ?_; simp only [Act.put, List.setIfInBounds_toArray, List.set_cons_succ, List.set_cons_zero])
    | ((with_reducible refine wpAtC ?_); refine wpList_gives rfl (gives_buildKy (S := fun v w' => v = .agg (kcell n Y).toArray ∧ w' = w12) rfl rfl rfl hYl ⟨rfl, rfl⟩) ?_; rintro v13 w13 ⟨rfl, rfl⟩; simp only [Act.put, List.setIfInBounds_toArray, List.set_cons_succ, List.set_cons_zero]))
  rename World => wv
  have hb012 := bx_trans hb08 hb810
  have hk12 := hk8.below hb810 hk8.lt
  refine (HVC.out _ hb012).mono ?_
  rintro e w14 ⟨rfl, hb14⟩
  have hb014 := bx_trans hb012 hb14
  have hk14 := hk12.below hb14 hk12.lt
  have hx14 := hx20.below hb14 hx20.lt
  have hax := aggHL hXl
  have heq := eq_hash X root hXl hro
  clear hk12 hx20 hz20b hz21b hz20 hz21 hp11 hp12 hkk12 ck12 cy12 hb14 hb012 hb810 hb08 hkk8 hk8 hb9 hb10 HVC
  go_wp2_with fail
  unfold Hold
  by_cases hE : E = 0
  · subst hE
    by_cases hG : G = 0
    · subst hG
      by_cases hX : X = root
      · obtain rfl : J = 0 := by rw [HJ.out, if_pos rfl, if_pos hX]
        rw [show (X == root) = true by simpa using hX] at heq
        clear hX
        refine wp_region_lit ?_
        refine wp_flowSE [0, 1, 3, 7, 15, 31, 63, 127, 255, 511, 1023, 2047, 4095, 8191, 16383, 32767, 65535, 131071, 262143, 524287, 1048575, 2097151, 4194303, 8388607, 16777215, 33554431, 67108863, 134217727, 268435455, 536870911, 1073741823, 2147483647, 4294967295, 8589934591, 17179869183, 34359738367] 36 [false, false, false, false, false, false, false, false, false, false, false, false, true, false, false, false, false, false, false, false, false, false, false, false, false, false, false, false, false, false, false, false, false, false, false, false, false, false, false, false, false, false, false, false, false, false, false, false, false, false, false, false, false, false, false, false, false, false, false, false, false, false, false, false, false, false, false, false, false, false, false, false, false, false, false, false, false, false, true, true, true, true, true, true, true, true, true, true, true, true, true, true, true, true, true, true, true, true, true, true, true, true, true, true, true, true, true, true, true, true, true, true, true] (by kernel_rfl) (by kernel_rfl) (by kernel_rfl) [FP.eq (.int .i64 0), FP.eq (.bool true), FP.eq (.int .i64 0), FP.eq (.bool true), FP.eq (.bool true), FP.eq (.bool true), FP.eq (.int .i64 0), FP.eq (.bool true), FP.eq (.bool true), FP.any, FP.any, FP.any, FP.eq (.bool true), FP.eq (.bool true), FP.eq (.bool true), FP.eq (.int .i64 0), FP.eq (.bool true), FP.eq (.bool true), FP.any, FP.any, FP.any, FP.eq (.bool true), FP.eq (.bool true), FP.eq (.bool true), FP.eq (.int .i64 0), FP.eq (.bool false), FP.eq (.bool false), FP.eq (.int .i64 0), FP.eq (.bool true), FP.eq (.agg (X.map cb).toArray), FP.eq (.agg (root.map cb).toArray), FP.eq (.bool true), FP.eq (.bool true), FP.eq (.bool true), FP.eq (.bool true), FP.eq (.bool true)] ?_ ?_
        · refine allFrom_cons ?_ ?_
          · intro a_ w_ hk_
            have h17 : a_.eval (.tmp 17) = .int .i64 0 := hk_.old 17 (by kernel_rfl)
            have hx_ := hk_.ext
            clear hk_
            refine flow_plain rfl ?_
            exact gives_move rfl ⟨Below.refl _ _, h17⟩
          refine allFrom_cons ?_ ?_
          · intro a_ w_ hk_
            have h78 : a_.eval (.tmp 78) = (.int .i64 0) := hk_.got 0 78 _ (by kernel_rfl) rfl rfl
            have hx_ := hk_.ext
            clear hk_
            refine flow_plain rfl ?_
            unfold gives
            have hc_ : ∀ v, a_.eval (.const v) = v := fun _ => rfl
            have hn_ : ∀ f, a_.eval (.func f) = .func (.func f) #[] #[] := fun _ => rfl
            generalize a_.eval = ρ_ at *
            go_simp
            exact ⟨Below.refl _ _, rfl⟩
          refine allFrom_cons ?_ ?_
          · intro a_ w_ hk_
            have h18 : a_.eval (.tmp 18) = .int .i64 0 := hk_.old 18 (by kernel_rfl)
            have hx_ := hk_.ext
            clear hk_
            refine flow_plain rfl ?_
            exact gives_move rfl ⟨Below.refl _ _, h18⟩
          refine allFrom_cons ?_ ?_
          · intro a_ w_ hk_
            have h80 : a_.eval (.tmp 80) = (.int .i64 0) := hk_.got 2 80 _ (by kernel_rfl) rfl rfl
            have hx_ := hk_.ext
            clear hk_
            refine flow_plain rfl ?_
            unfold gives
            have hc_ : ∀ v, a_.eval (.const v) = v := fun _ => rfl
            have hn_ : ∀ f, a_.eval (.func f) = .func (.func f) #[] #[] := fun _ => rfl
            generalize a_.eval = ρ_ at *
            go_simp
            exact ⟨Below.refl _ _, rfl⟩
          refine allFrom_cons ?_ ?_
          · intro a_ w_ hk_
            have h79 : a_.eval (.tmp 79) = (.bool true) := hk_.got 1 79 _ (by kernel_rfl) rfl rfl
            have h81 : a_.eval (.tmp 81) = (.bool true) := hk_.got 3 81 _ (by kernel_rfl) rfl rfl
            have hx_ := hk_.ext
            clear hk_
            refine flow_plain rfl ?_
            unfold gives
            have hc_ : ∀ v, a_.eval (.const v) = v := fun _ => rfl
            have hn_ : ∀ f, a_.eval (.func f) = .func (.func f) #[] #[] := fun _ => rfl
            generalize a_.eval = ρ_ at *
            go_simp
            exact ⟨Below.refl _ _, rfl⟩
          refine allFrom_cons ?_ ?_
          · intro a_ w_ hk_
            have h82 : a_.eval (.tmp 82) = (.bool true) := hk_.got 4 82 _ (by kernel_rfl) rfl rfl
            have hx_ := hk_.ext
            clear hk_
            refine flow_plain rfl ?_
            exact gives_move rfl ⟨Below.refl _ _, h82⟩
          refine allFrom_cons ?_ ?_
          · intro a_ w_ hk_
            have h17 : a_.eval (.tmp 17) = .int .i64 0 := hk_.old 17 (by kernel_rfl)
            have hg_ : a_.eval (.tmp 83) = .bool true := hk_.got 5 83 _ (by kernel_rfl) rfl rfl
            have hy_ := hk_.want 5 _ 83 true rfl rfl hg_
            have hx_ := hk_.ext
            clear hk_
            refine flow_want rfl hy_ ?_
            exact gives_move rfl ⟨Below.refl _ _, h17⟩
          refine allFrom_cons ?_ ?_
          · intro a_ w_ hk_
            have h84 : a_.eval (.tmp 84) = (.int .i64 0) := hk_.got 6 84 _ (by kernel_rfl) rfl rfl
            have hg_ : a_.eval (.tmp 83) = .bool true := hk_.got 5 83 _ (by kernel_rfl) rfl rfl
            have hy_ := hk_.want 5 _ 83 true rfl rfl hg_
            have hx_ := hk_.ext
            clear hk_
            refine flow_want rfl hy_ ?_
            unfold gives
            have hc_ : ∀ v, a_.eval (.const v) = v := fun _ => rfl
            have hn_ : ∀ f, a_.eval (.func f) = .func (.func f) #[] #[] := fun _ => rfl
            clear hy_ hg_
            generalize a_.eval = ρ_ at *
            go_simp
            exact ⟨Below.refl _ _, rfl⟩
          refine allFrom_cons ?_ ?_
          · intro a_ w_ hk_
            have h85 : a_.eval (.tmp 85) = (.bool true) := hk_.got 7 85 _ (by kernel_rfl) rfl rfl
            have hg_ : a_.eval (.tmp 83) = .bool true := hk_.got 5 83 _ (by kernel_rfl) rfl rfl
            have hy_ := hk_.want 5 _ 83 true rfl rfl hg_
            have hx_ := hk_.ext
            clear hk_
            refine flow_want rfl hy_ ?_
            exact gives_move rfl ⟨Below.refl _ _, h85⟩
          refine allFrom_cons ?_ ?_
          · intro a_ w_ hk_
            have h17 : a_.eval (.tmp 17) = .int .i64 0 := hk_.old 17 (by kernel_rfl)
            have hg_ : a_.eval (.tmp 86) = .bool true := hk_.got 8 86 _ (by kernel_rfl) rfl rfl
            have hy_ := hk_.want 8 _ 86 true rfl rfl hg_
            have hx_ := hk_.ext
            clear hk_
            exact flow_skip rfl hy_ (by decide) trivial
          refine allFrom_cons ?_ ?_
          · intro a_ w_ hk_
            have h18 : a_.eval (.tmp 18) = .int .i64 0 := hk_.old 18 (by kernel_rfl)
            have hg_ : a_.eval (.tmp 86) = .bool true := hk_.got 8 86 _ (by kernel_rfl) rfl rfl
            have hy_ := hk_.want 8 _ 86 true rfl rfl hg_
            have hx_ := hk_.ext
            clear hk_
            exact flow_skip rfl hy_ (by decide) trivial
          refine allFrom_cons ?_ ?_
          · intro a_ w_ hk_
            have hg_ : a_.eval (.tmp 86) = .bool true := hk_.got 8 86 _ (by kernel_rfl) rfl rfl
            have hy_ := hk_.want 8 _ 86 true rfl rfl hg_
            have hx_ := hk_.ext
            clear hk_
            exact flow_skip rfl hy_ (by decide) trivial
          refine allFrom_cons ?_ ?_
          · intro a_ w_ hk_
            have h86 : a_.eval (.tmp 86) = (.bool true) := hk_.got 8 86 _ (by kernel_rfl) rfl rfl
            have hg_ : a_.eval (.tmp 83) = .bool true := hk_.got 5 83 _ (by kernel_rfl) rfl rfl
            have hy_ := hk_.want 5 _ 83 true rfl rfl hg_
            have hx_ := hk_.ext
            clear hk_
            refine flow_want rfl hy_ ?_
            exact gives_pick rfl h86 ⟨Below.refl _ _, rfl⟩
          refine allFrom_cons ?_ ?_
          · intro a_ w_ hk_
            have h83 : a_.eval (.tmp 83) = (.bool true) := hk_.got 5 83 _ (by kernel_rfl) rfl rfl
            have h90 : a_.eval (.tmp 90) = (.bool true) := hk_.got 12 90 _ (by kernel_rfl) rfl rfl
            have hx_ := hk_.ext
            clear hk_
            refine flow_plain rfl ?_
            exact gives_pick rfl h83 ⟨Below.refl _ _, h90⟩
          refine allFrom_cons ?_ ?_
          · intro a_ w_ hk_
            have h91 : a_.eval (.tmp 91) = (.bool true) := hk_.got 13 91 _ (by kernel_rfl) rfl rfl
            have hx_ := hk_.ext
            clear hk_
            refine flow_plain rfl ?_
            exact gives_move rfl ⟨Below.refl _ _, h91⟩
          refine allFrom_cons ?_ ?_
          · intro a_ w_ hk_
            have h22 : a_.eval (.tmp 22) = .int .i64 0 := hk_.old 22 (by kernel_rfl)
            have hg_ : a_.eval (.tmp 92) = .bool true := hk_.got 14 92 _ (by kernel_rfl) rfl rfl
            have hy_ := hk_.want 14 _ 92 true rfl rfl hg_
            have hx_ := hk_.ext
            clear hk_
            refine flow_want rfl hy_ ?_
            exact gives_move rfl ⟨Below.refl _ _, h22⟩
          refine allFrom_cons ?_ ?_
          · intro a_ w_ hk_
            have h93 : a_.eval (.tmp 93) = (.int .i64 0) := hk_.got 15 93 _ (by kernel_rfl) rfl rfl
            have hg_ : a_.eval (.tmp 92) = .bool true := hk_.got 14 92 _ (by kernel_rfl) rfl rfl
            have hy_ := hk_.want 14 _ 92 true rfl rfl hg_
            have hx_ := hk_.ext
            clear hk_
            refine flow_want rfl hy_ ?_
            unfold gives
            have hc_ : ∀ v, a_.eval (.const v) = v := fun _ => rfl
            have hn_ : ∀ f, a_.eval (.func f) = .func (.func f) #[] #[] := fun _ => rfl
            clear hy_ hg_
            generalize a_.eval = ρ_ at *
            go_simp
            exact ⟨Below.refl _ _, rfl⟩
          refine allFrom_cons ?_ ?_
          · intro a_ w_ hk_
            have h94 : a_.eval (.tmp 94) = (.bool true) := hk_.got 16 94 _ (by kernel_rfl) rfl rfl
            have hg_ : a_.eval (.tmp 92) = .bool true := hk_.got 14 92 _ (by kernel_rfl) rfl rfl
            have hy_ := hk_.want 14 _ 92 true rfl rfl hg_
            have hx_ := hk_.ext
            clear hk_
            refine flow_want rfl hy_ ?_
            exact gives_move rfl ⟨Below.refl _ _, h94⟩
          refine allFrom_cons ?_ ?_
          · intro a_ w_ hk_
            have h23 : a_.eval (.tmp 23) = .int .i64 0 := hk_.old 23 (by kernel_rfl)
            have hg_ : a_.eval (.tmp 95) = .bool true := hk_.got 17 95 _ (by kernel_rfl) rfl rfl
            have hy_ := hk_.want 17 _ 95 true rfl rfl hg_
            have hx_ := hk_.ext
            clear hk_
            exact flow_skip rfl hy_ (by decide) trivial
          refine allFrom_cons ?_ ?_
          · intro a_ w_ hk_
            have h22 : a_.eval (.tmp 22) = .int .i64 0 := hk_.old 22 (by kernel_rfl)
            have hg_ : a_.eval (.tmp 95) = .bool true := hk_.got 17 95 _ (by kernel_rfl) rfl rfl
            have hy_ := hk_.want 17 _ 95 true rfl rfl hg_
            have hx_ := hk_.ext
            clear hk_
            exact flow_skip rfl hy_ (by decide) trivial
          refine allFrom_cons ?_ ?_
          · intro a_ w_ hk_
            have hg_ : a_.eval (.tmp 95) = .bool true := hk_.got 17 95 _ (by kernel_rfl) rfl rfl
            have hy_ := hk_.want 17 _ 95 true rfl rfl hg_
            have hx_ := hk_.ext
            clear hk_
            exact flow_skip rfl hy_ (by decide) trivial
          refine allFrom_cons ?_ ?_
          · intro a_ w_ hk_
            have h95 : a_.eval (.tmp 95) = (.bool true) := hk_.got 17 95 _ (by kernel_rfl) rfl rfl
            have hg_ : a_.eval (.tmp 92) = .bool true := hk_.got 14 92 _ (by kernel_rfl) rfl rfl
            have hy_ := hk_.want 14 _ 92 true rfl rfl hg_
            have hx_ := hk_.ext
            clear hk_
            refine flow_want rfl hy_ ?_
            exact gives_pick rfl h95 ⟨Below.refl _ _, rfl⟩
          refine allFrom_cons ?_ ?_
          · intro a_ w_ hk_
            have h92 : a_.eval (.tmp 92) = (.bool true) := hk_.got 14 92 _ (by kernel_rfl) rfl rfl
            have h99 : a_.eval (.tmp 99) = (.bool true) := hk_.got 21 99 _ (by kernel_rfl) rfl rfl
            have hx_ := hk_.ext
            clear hk_
            refine flow_plain rfl ?_
            exact gives_pick rfl h92 ⟨Below.refl _ _, h99⟩
          refine allFrom_cons ?_ ?_
          · intro a_ w_ hk_
            have h100 : a_.eval (.tmp 100) = (.bool true) := hk_.got 22 100 _ (by kernel_rfl) rfl rfl
            have hx_ := hk_.ext
            clear hk_
            refine flow_plain rfl ?_
            exact gives_move rfl ⟨Below.refl _ _, h100⟩
          refine allFrom_cons ?_ ?_
          · intro a_ w_ hk_
            have h22 : a_.eval (.tmp 22) = .int .i64 0 := hk_.old 22 (by kernel_rfl)
            have hg_ : a_.eval (.tmp 101) = .bool true := hk_.got 23 101 _ (by kernel_rfl) rfl rfl
            have hy_ := hk_.want 23 _ 101 true rfl rfl hg_
            have hx_ := hk_.ext
            clear hk_
            refine flow_want rfl hy_ ?_
            exact gives_move rfl ⟨Below.refl _ _, h22⟩
          refine allFrom_cons ?_ ?_
          · intro a_ w_ hk_
            have h102 : a_.eval (.tmp 102) = (.int .i64 0) := hk_.got 24 102 _ (by kernel_rfl) rfl rfl
            have hg_ : a_.eval (.tmp 101) = .bool true := hk_.got 23 101 _ (by kernel_rfl) rfl rfl
            have hy_ := hk_.want 23 _ 101 true rfl rfl hg_
            have hx_ := hk_.ext
            clear hk_
            refine flow_want rfl hy_ ?_
            unfold gives
            have hc_ : ∀ v, a_.eval (.const v) = v := fun _ => rfl
            have hn_ : ∀ f, a_.eval (.func f) = .func (.func f) #[] #[] := fun _ => rfl
            clear hy_ hg_
            generalize a_.eval = ρ_ at *
            go_simp
            exact ⟨Below.refl _ _, rfl⟩
          refine allFrom_cons ?_ ?_
          · intro a_ w_ hk_
            have h103 : a_.eval (.tmp 103) = (.bool false) := hk_.got 25 103 _ (by kernel_rfl) rfl rfl
            have hg_ : a_.eval (.tmp 101) = .bool true := hk_.got 23 101 _ (by kernel_rfl) rfl rfl
            have hy_ := hk_.want 23 _ 101 true rfl rfl hg_
            have hx_ := hk_.ext
            clear hk_
            refine flow_want rfl hy_ ?_
            exact gives_move rfl ⟨Below.refl _ _, h103⟩
          refine allFrom_cons ?_ ?_
          · intro a_ w_ hk_
            have h23 : a_.eval (.tmp 23) = .int .i64 0 := hk_.old 23 (by kernel_rfl)
            have hg_ : a_.eval (.tmp 104) = .bool false := hk_.got 26 104 _ (by kernel_rfl) rfl rfl
            have hy_ := hk_.want 26 _ 104 false rfl rfl hg_
            have hx_ := hk_.ext
            clear hk_
            refine flow_want rfl hy_ ?_
            exact gives_move rfl ⟨Below.refl _ _, h23⟩
          refine allFrom_cons ?_ ?_
          · intro a_ w_ hk_
            have h105 : a_.eval (.tmp 105) = (.int .i64 0) := hk_.got 27 105 _ (by kernel_rfl) rfl rfl
            have hg_ : a_.eval (.tmp 104) = .bool false := hk_.got 26 104 _ (by kernel_rfl) rfl rfl
            have hy_ := hk_.want 26 _ 104 false rfl rfl hg_
            have hx_ := hk_.ext
            clear hk_
            refine flow_want rfl hy_ ?_
            unfold gives
            have hc_ : ∀ v, a_.eval (.const v) = v := fun _ => rfl
            have hn_ : ∀ f, a_.eval (.func f) = .func (.func f) #[] #[] := fun _ => rfl
            clear hy_ hg_
            generalize a_.eval = ρ_ at *
            go_simp
            exact ⟨Below.refl _ _, rfl⟩
          refine allFrom_cons ?_ ?_
          · intro a_ w_ hk_
            have h20 : a_.eval (.tmp 20) = .pointer (some ⟨g20, 0, none⟩) := hk_.old 20 (by kernel_rfl)
            have hg_ : a_.eval (.tmp 104) = .bool false := hk_.got 26 104 _ (by kernel_rfl) rfl rfl
            have hy_ := hk_.want 26 _ 104 false rfl rfl hg_
            have hx_ := hk_.ext
            clear hk_
            refine flow_want rfl hy_ ?_
            exact gives_ldC rfl h20 hax (blk_cells (hx14.below hx_ hx14.lt)) ⟨Below.refl _ _, rfl⟩
          refine allFrom_cons ?_ ?_
          · intro a_ w_ hk_
            have h11 : a_.eval (.tmp 11) = .pointer (some ⟨w.heap.size, 0, none⟩) := hk_.old 11 (by kernel_rfl)
            have hg_ : a_.eval (.tmp 104) = .bool false := hk_.got 26 104 _ (by kernel_rfl) rfl rfl
            have hy_ := hk_.want 26 _ 104 false rfl rfl hg_
            have hx_ := hk_.ext
            clear hk_
            refine flow_want rfl hy_ ?_
            exact gives_ldC rfl h11 har (blk_cells (hk14.below hx_ hk14.lt)) ⟨Below.refl _ _, rfl⟩
          refine allFrom_cons ?_ ?_
          · intro a_ w_ hk_
            have h107 : a_.eval (.tmp 107) = (.agg (X.map cb).toArray) := hk_.got 29 107 _ (by kernel_rfl) rfl rfl
            have h108 : a_.eval (.tmp 108) = (.agg (root.map cb).toArray) := hk_.got 30 108 _ (by kernel_rfl) rfl rfl
            have hg_ : a_.eval (.tmp 104) = .bool false := hk_.got 26 104 _ (by kernel_rfl) rfl rfl
            have hy_ := hk_.want 26 _ 104 false rfl rfl hg_
            have hx_ := hk_.ext
            clear hk_
            refine flow_want rfl hy_ ?_
            unfold gives
            have hc_ : ∀ v, a_.eval (.const v) = v := fun _ => rfl
            have hn_ : ∀ f, a_.eval (.func f) = .func (.func f) #[] #[] := fun _ => rfl
            clear hy_ hg_
            generalize a_.eval = ρ_ at *
            go_simp
            exact ⟨Below.refl _ _, rfl⟩
          refine allFrom_cons ?_ ?_
          · intro a_ w_ hk_
            have h106 : a_.eval (.tmp 106) = (.bool true) := hk_.got 28 106 _ (by kernel_rfl) rfl rfl
            have h109 : a_.eval (.tmp 109) = (.bool true) := hk_.got 31 109 _ (by kernel_rfl) rfl rfl
            have hg_ : a_.eval (.tmp 104) = .bool false := hk_.got 26 104 _ (by kernel_rfl) rfl rfl
            have hy_ := hk_.want 26 _ 104 false rfl rfl hg_
            have hx_ := hk_.ext
            clear hk_
            refine flow_want rfl hy_ ?_
            unfold gives
            have hc_ : ∀ v, a_.eval (.const v) = v := fun _ => rfl
            have hn_ : ∀ f, a_.eval (.func f) = .func (.func f) #[] #[] := fun _ => rfl
            clear hy_ hg_
            generalize a_.eval = ρ_ at *
            go_simp
            exact ⟨Below.refl _ _, rfl⟩
          refine allFrom_cons ?_ ?_
          · intro a_ w_ hk_
            have h104 : a_.eval (.tmp 104) = (.bool false) := hk_.got 26 104 _ (by kernel_rfl) rfl rfl
            have h110 : a_.eval (.tmp 110) = (.bool true) := hk_.got 32 110 _ (by kernel_rfl) rfl rfl
            have hg_ : a_.eval (.tmp 101) = .bool true := hk_.got 23 101 _ (by kernel_rfl) rfl rfl
            have hy_ := hk_.want 23 _ 101 true rfl rfl hg_
            have hx_ := hk_.ext
            clear hk_
            refine flow_want rfl hy_ ?_
            exact gives_pick rfl h104 ⟨Below.refl _ _, h110⟩
          refine allFrom_cons ?_ ?_
          · intro a_ w_ hk_
            have h101 : a_.eval (.tmp 101) = (.bool true) := hk_.got 23 101 _ (by kernel_rfl) rfl rfl
            have h111 : a_.eval (.tmp 111) = (.bool true) := hk_.got 33 111 _ (by kernel_rfl) rfl rfl
            have hx_ := hk_.ext
            clear hk_
            refine flow_plain rfl ?_
            exact gives_pick rfl h101 ⟨Below.refl _ _, h111⟩
          refine allFrom_cons ?_ ?_
          · intro a_ w_ hk_
            have h112 : a_.eval (.tmp 112) = (.bool true) := hk_.got 34 112 _ (by kernel_rfl) rfl rfl
            have hx_ := hk_.ext
            clear hk_
            refine flow_plain rfl ?_
            exact gives_assign rfl ⟨Below.refl _ _, h112⟩
          exact allFrom_nil
        intro f_ w_ hx_ hf_
        have h78 : f_ 78 = (.int .i64 0) := hf_ 0 78 _ (by decide) rfl rfl
        have h79 : f_ 79 = (.bool true) := hf_ 1 79 _ (by decide) rfl rfl
        have h80 : f_ 80 = (.int .i64 0) := hf_ 2 80 _ (by decide) rfl rfl
        have h81 : f_ 81 = (.bool true) := hf_ 3 81 _ (by decide) rfl rfl
        have h82 : f_ 82 = (.bool true) := hf_ 4 82 _ (by decide) rfl rfl
        have h83 : f_ 83 = (.bool true) := hf_ 5 83 _ (by decide) rfl rfl
        have h84 : f_ 84 = (.int .i64 0) := hf_ 6 84 _ (by decide) rfl rfl
        have h85 : f_ 85 = (.bool true) := hf_ 7 85 _ (by decide) rfl rfl
        have h86 : f_ 86 = (.bool true) := hf_ 8 86 _ (by decide) rfl rfl
        have h90 : f_ 90 = (.bool true) := hf_ 12 90 _ (by decide) rfl rfl
        have h91 : f_ 91 = (.bool true) := hf_ 13 91 _ (by decide) rfl rfl
        have h92 : f_ 92 = (.bool true) := hf_ 14 92 _ (by decide) rfl rfl
        have h93 : f_ 93 = (.int .i64 0) := hf_ 15 93 _ (by decide) rfl rfl
        have h94 : f_ 94 = (.bool true) := hf_ 16 94 _ (by decide) rfl rfl
        have h95 : f_ 95 = (.bool true) := hf_ 17 95 _ (by decide) rfl rfl
        have h99 : f_ 99 = (.bool true) := hf_ 21 99 _ (by decide) rfl rfl
        have h100 : f_ 100 = (.bool true) := hf_ 22 100 _ (by decide) rfl rfl
        have h101 : f_ 101 = (.bool true) := hf_ 23 101 _ (by decide) rfl rfl
        have h102 : f_ 102 = (.int .i64 0) := hf_ 24 102 _ (by decide) rfl rfl
        have h103 : f_ 103 = (.bool false) := hf_ 25 103 _ (by decide) rfl rfl
        have h104 : f_ 104 = (.bool false) := hf_ 26 104 _ (by decide) rfl rfl
        have h105 : f_ 105 = (.int .i64 0) := hf_ 27 105 _ (by decide) rfl rfl
        have h106 : f_ 106 = (.bool true) := hf_ 28 106 _ (by decide) rfl rfl
        have h107 : f_ 107 = (.agg (X.map cb).toArray) := hf_ 29 107 _ (by decide) rfl rfl
        have h108 : f_ 108 = (.agg (root.map cb).toArray) := hf_ 30 108 _ (by decide) rfl rfl
        have h109 : f_ 109 = (.bool true) := hf_ 31 109 _ (by decide) rfl rfl
        have h110 : f_ 110 = (.bool true) := hf_ 32 110 _ (by decide) rfl rfl
        have h111 : f_ 111 = (.bool true) := hf_ 33 111 _ (by decide) rfl rfl
        have h112 : f_ 112 = (.bool true) := hf_ 34 112 _ (by decide) rfl rfl
        have h12 : f_ 12 = (.bool true) := hf_ 35 12 _ (by decide) rfl rfl
        simp only [mix, h78, h79, h80, h81, h82, h83, h84, h85, h86, h90, h91, h92, h93, h94, h95, h99, h100, h101, h102, h103, h104, h105, h106, h107, h108, h109, h110, h111, h112, h12]
        clear h78 h79 h80 h81 h82 h83 h84 h85 h86 h90 h91 h92 h93 h94 h95 h99 h100 h101 h102 h103 h104 h105 h106 h107 h108 h109 h110 h111 h112 h12
        clear hf_
        have hbf := bx_trans hb014 hx_
        clear hx_
        go_wp2_with fail
        go_ret
        exact ⟨rfl, hbf⟩
      · obtain rfl : J = 20 := by rw [HJ.out, if_pos rfl, if_neg hX]
        rw [show (X == root) = false by simpa using hX] at heq
        clear hX
        refine wp_region_lit ?_
        refine wp_flowSE [0, 1, 3, 7, 15, 31, 63, 127, 255, 511, 1023, 2047, 4095, 8191, 16383, 32767, 65535, 131071, 262143, 524287, 1048575, 2097151, 4194303, 8388607, 16777215, 33554431, 67108863, 134217727, 268435455, 536870911, 1073741823, 2147483647, 4294967295, 8589934591, 17179869183, 34359738367] 36 [false, false, false, false, false, false, false, false, false, false, false, false, true, false, false, false, false, false, false, false, false, false, false, false, false, false, false, false, false, false, false, false, false, false, false, false, false, false, false, false, false, false, false, false, false, false, false, false, false, false, false, false, false, false, false, false, false, false, false, false, false, false, false, false, false, false, false, false, false, false, false, false, false, false, false, false, false, false, true, true, true, true, true, true, true, true, true, true, true, true, true, true, true, true, true, true, true, true, true, true, true, true, true, true, true, true, true, true, true, true, true, true, true] (by kernel_rfl) (by kernel_rfl) (by kernel_rfl) [FP.eq (.int .i64 0), FP.eq (.bool true), FP.eq (.int .i64 0), FP.eq (.bool true), FP.eq (.bool true), FP.eq (.bool true), FP.eq (.int .i64 0), FP.eq (.bool true), FP.eq (.bool true), FP.any, FP.any, FP.any, FP.eq (.bool true), FP.eq (.bool true), FP.eq (.bool true), FP.eq (.int .i64 0), FP.eq (.bool true), FP.eq (.bool true), FP.any, FP.any, FP.any, FP.eq (.bool true), FP.eq (.bool true), FP.eq (.bool true), FP.eq (.int .i64 0), FP.eq (.bool false), FP.eq (.bool false), FP.eq (.int .i64 20), FP.eq (.bool false), FP.eq (.agg (X.map cb).toArray), FP.eq (.agg (root.map cb).toArray), FP.eq (.bool false), FP.eq (.bool true), FP.eq (.bool true), FP.eq (.bool true), FP.eq (.bool true)] ?_ ?_
        · refine allFrom_cons ?_ ?_
          · intro a_ w_ hk_
            have h17 : a_.eval (.tmp 17) = .int .i64 0 := hk_.old 17 (by kernel_rfl)
            have hx_ := hk_.ext
            clear hk_
            refine flow_plain rfl ?_
            exact gives_move rfl ⟨Below.refl _ _, h17⟩
          refine allFrom_cons ?_ ?_
          · intro a_ w_ hk_
            have h78 : a_.eval (.tmp 78) = (.int .i64 0) := hk_.got 0 78 _ (by kernel_rfl) rfl rfl
            have hx_ := hk_.ext
            clear hk_
            refine flow_plain rfl ?_
            unfold gives
            have hc_ : ∀ v, a_.eval (.const v) = v := fun _ => rfl
            have hn_ : ∀ f, a_.eval (.func f) = .func (.func f) #[] #[] := fun _ => rfl
            generalize a_.eval = ρ_ at *
            go_simp
            exact ⟨Below.refl _ _, rfl⟩
          refine allFrom_cons ?_ ?_
          · intro a_ w_ hk_
            have h18 : a_.eval (.tmp 18) = .int .i64 0 := hk_.old 18 (by kernel_rfl)
            have hx_ := hk_.ext
            clear hk_
            refine flow_plain rfl ?_
            exact gives_move rfl ⟨Below.refl _ _, h18⟩
          refine allFrom_cons ?_ ?_
          · intro a_ w_ hk_
            have h80 : a_.eval (.tmp 80) = (.int .i64 0) := hk_.got 2 80 _ (by kernel_rfl) rfl rfl
            have hx_ := hk_.ext
            clear hk_
            refine flow_plain rfl ?_
            unfold gives
            have hc_ : ∀ v, a_.eval (.const v) = v := fun _ => rfl
            have hn_ : ∀ f, a_.eval (.func f) = .func (.func f) #[] #[] := fun _ => rfl
            generalize a_.eval = ρ_ at *
            go_simp
            exact ⟨Below.refl _ _, rfl⟩
          refine allFrom_cons ?_ ?_
          · intro a_ w_ hk_
            have h79 : a_.eval (.tmp 79) = (.bool true) := hk_.got 1 79 _ (by kernel_rfl) rfl rfl
            have h81 : a_.eval (.tmp 81) = (.bool true) := hk_.got 3 81 _ (by kernel_rfl) rfl rfl
            have hx_ := hk_.ext
            clear hk_
            refine flow_plain rfl ?_
            unfold gives
            have hc_ : ∀ v, a_.eval (.const v) = v := fun _ => rfl
            have hn_ : ∀ f, a_.eval (.func f) = .func (.func f) #[] #[] := fun _ => rfl
            generalize a_.eval = ρ_ at *
            go_simp
            exact ⟨Below.refl _ _, rfl⟩
          refine allFrom_cons ?_ ?_
          · intro a_ w_ hk_
            have h82 : a_.eval (.tmp 82) = (.bool true) := hk_.got 4 82 _ (by kernel_rfl) rfl rfl
            have hx_ := hk_.ext
            clear hk_
            refine flow_plain rfl ?_
            exact gives_move rfl ⟨Below.refl _ _, h82⟩
          refine allFrom_cons ?_ ?_
          · intro a_ w_ hk_
            have h17 : a_.eval (.tmp 17) = .int .i64 0 := hk_.old 17 (by kernel_rfl)
            have hg_ : a_.eval (.tmp 83) = .bool true := hk_.got 5 83 _ (by kernel_rfl) rfl rfl
            have hy_ := hk_.want 5 _ 83 true rfl rfl hg_
            have hx_ := hk_.ext
            clear hk_
            refine flow_want rfl hy_ ?_
            exact gives_move rfl ⟨Below.refl _ _, h17⟩
          refine allFrom_cons ?_ ?_
          · intro a_ w_ hk_
            have h84 : a_.eval (.tmp 84) = (.int .i64 0) := hk_.got 6 84 _ (by kernel_rfl) rfl rfl
            have hg_ : a_.eval (.tmp 83) = .bool true := hk_.got 5 83 _ (by kernel_rfl) rfl rfl
            have hy_ := hk_.want 5 _ 83 true rfl rfl hg_
            have hx_ := hk_.ext
            clear hk_
            refine flow_want rfl hy_ ?_
            unfold gives
            have hc_ : ∀ v, a_.eval (.const v) = v := fun _ => rfl
            have hn_ : ∀ f, a_.eval (.func f) = .func (.func f) #[] #[] := fun _ => rfl
            clear hy_ hg_
            generalize a_.eval = ρ_ at *
            go_simp
            exact ⟨Below.refl _ _, rfl⟩
          refine allFrom_cons ?_ ?_
          · intro a_ w_ hk_
            have h85 : a_.eval (.tmp 85) = (.bool true) := hk_.got 7 85 _ (by kernel_rfl) rfl rfl
            have hg_ : a_.eval (.tmp 83) = .bool true := hk_.got 5 83 _ (by kernel_rfl) rfl rfl
            have hy_ := hk_.want 5 _ 83 true rfl rfl hg_
            have hx_ := hk_.ext
            clear hk_
            refine flow_want rfl hy_ ?_
            exact gives_move rfl ⟨Below.refl _ _, h85⟩
          refine allFrom_cons ?_ ?_
          · intro a_ w_ hk_
            have h17 : a_.eval (.tmp 17) = .int .i64 0 := hk_.old 17 (by kernel_rfl)
            have hg_ : a_.eval (.tmp 86) = .bool true := hk_.got 8 86 _ (by kernel_rfl) rfl rfl
            have hy_ := hk_.want 8 _ 86 true rfl rfl hg_
            have hx_ := hk_.ext
            clear hk_
            exact flow_skip rfl hy_ (by decide) trivial
          refine allFrom_cons ?_ ?_
          · intro a_ w_ hk_
            have h18 : a_.eval (.tmp 18) = .int .i64 0 := hk_.old 18 (by kernel_rfl)
            have hg_ : a_.eval (.tmp 86) = .bool true := hk_.got 8 86 _ (by kernel_rfl) rfl rfl
            have hy_ := hk_.want 8 _ 86 true rfl rfl hg_
            have hx_ := hk_.ext
            clear hk_
            exact flow_skip rfl hy_ (by decide) trivial
          refine allFrom_cons ?_ ?_
          · intro a_ w_ hk_
            have hg_ : a_.eval (.tmp 86) = .bool true := hk_.got 8 86 _ (by kernel_rfl) rfl rfl
            have hy_ := hk_.want 8 _ 86 true rfl rfl hg_
            have hx_ := hk_.ext
            clear hk_
            exact flow_skip rfl hy_ (by decide) trivial
          refine allFrom_cons ?_ ?_
          · intro a_ w_ hk_
            have h86 : a_.eval (.tmp 86) = (.bool true) := hk_.got 8 86 _ (by kernel_rfl) rfl rfl
            have hg_ : a_.eval (.tmp 83) = .bool true := hk_.got 5 83 _ (by kernel_rfl) rfl rfl
            have hy_ := hk_.want 5 _ 83 true rfl rfl hg_
            have hx_ := hk_.ext
            clear hk_
            refine flow_want rfl hy_ ?_
            exact gives_pick rfl h86 ⟨Below.refl _ _, rfl⟩
          refine allFrom_cons ?_ ?_
          · intro a_ w_ hk_
            have h83 : a_.eval (.tmp 83) = (.bool true) := hk_.got 5 83 _ (by kernel_rfl) rfl rfl
            have h90 : a_.eval (.tmp 90) = (.bool true) := hk_.got 12 90 _ (by kernel_rfl) rfl rfl
            have hx_ := hk_.ext
            clear hk_
            refine flow_plain rfl ?_
            exact gives_pick rfl h83 ⟨Below.refl _ _, h90⟩
          refine allFrom_cons ?_ ?_
          · intro a_ w_ hk_
            have h91 : a_.eval (.tmp 91) = (.bool true) := hk_.got 13 91 _ (by kernel_rfl) rfl rfl
            have hx_ := hk_.ext
            clear hk_
            refine flow_plain rfl ?_
            exact gives_move rfl ⟨Below.refl _ _, h91⟩
          refine allFrom_cons ?_ ?_
          · intro a_ w_ hk_
            have h22 : a_.eval (.tmp 22) = .int .i64 0 := hk_.old 22 (by kernel_rfl)
            have hg_ : a_.eval (.tmp 92) = .bool true := hk_.got 14 92 _ (by kernel_rfl) rfl rfl
            have hy_ := hk_.want 14 _ 92 true rfl rfl hg_
            have hx_ := hk_.ext
            clear hk_
            refine flow_want rfl hy_ ?_
            exact gives_move rfl ⟨Below.refl _ _, h22⟩
          refine allFrom_cons ?_ ?_
          · intro a_ w_ hk_
            have h93 : a_.eval (.tmp 93) = (.int .i64 0) := hk_.got 15 93 _ (by kernel_rfl) rfl rfl
            have hg_ : a_.eval (.tmp 92) = .bool true := hk_.got 14 92 _ (by kernel_rfl) rfl rfl
            have hy_ := hk_.want 14 _ 92 true rfl rfl hg_
            have hx_ := hk_.ext
            clear hk_
            refine flow_want rfl hy_ ?_
            unfold gives
            have hc_ : ∀ v, a_.eval (.const v) = v := fun _ => rfl
            have hn_ : ∀ f, a_.eval (.func f) = .func (.func f) #[] #[] := fun _ => rfl
            clear hy_ hg_
            generalize a_.eval = ρ_ at *
            go_simp
            exact ⟨Below.refl _ _, rfl⟩
          refine allFrom_cons ?_ ?_
          · intro a_ w_ hk_
            have h94 : a_.eval (.tmp 94) = (.bool true) := hk_.got 16 94 _ (by kernel_rfl) rfl rfl
            have hg_ : a_.eval (.tmp 92) = .bool true := hk_.got 14 92 _ (by kernel_rfl) rfl rfl
            have hy_ := hk_.want 14 _ 92 true rfl rfl hg_
            have hx_ := hk_.ext
            clear hk_
            refine flow_want rfl hy_ ?_
            exact gives_move rfl ⟨Below.refl _ _, h94⟩
          refine allFrom_cons ?_ ?_
          · intro a_ w_ hk_
            have h23 : a_.eval (.tmp 23) = .int .i64 20 := hk_.old 23 (by kernel_rfl)
            have hg_ : a_.eval (.tmp 95) = .bool true := hk_.got 17 95 _ (by kernel_rfl) rfl rfl
            have hy_ := hk_.want 17 _ 95 true rfl rfl hg_
            have hx_ := hk_.ext
            clear hk_
            exact flow_skip rfl hy_ (by decide) trivial
          refine allFrom_cons ?_ ?_
          · intro a_ w_ hk_
            have h22 : a_.eval (.tmp 22) = .int .i64 0 := hk_.old 22 (by kernel_rfl)
            have hg_ : a_.eval (.tmp 95) = .bool true := hk_.got 17 95 _ (by kernel_rfl) rfl rfl
            have hy_ := hk_.want 17 _ 95 true rfl rfl hg_
            have hx_ := hk_.ext
            clear hk_
            exact flow_skip rfl hy_ (by decide) trivial
          refine allFrom_cons ?_ ?_
          · intro a_ w_ hk_
            have hg_ : a_.eval (.tmp 95) = .bool true := hk_.got 17 95 _ (by kernel_rfl) rfl rfl
            have hy_ := hk_.want 17 _ 95 true rfl rfl hg_
            have hx_ := hk_.ext
            clear hk_
            exact flow_skip rfl hy_ (by decide) trivial
          refine allFrom_cons ?_ ?_
          · intro a_ w_ hk_
            have h95 : a_.eval (.tmp 95) = (.bool true) := hk_.got 17 95 _ (by kernel_rfl) rfl rfl
            have hg_ : a_.eval (.tmp 92) = .bool true := hk_.got 14 92 _ (by kernel_rfl) rfl rfl
            have hy_ := hk_.want 14 _ 92 true rfl rfl hg_
            have hx_ := hk_.ext
            clear hk_
            refine flow_want rfl hy_ ?_
            exact gives_pick rfl h95 ⟨Below.refl _ _, rfl⟩
          refine allFrom_cons ?_ ?_
          · intro a_ w_ hk_
            have h92 : a_.eval (.tmp 92) = (.bool true) := hk_.got 14 92 _ (by kernel_rfl) rfl rfl
            have h99 : a_.eval (.tmp 99) = (.bool true) := hk_.got 21 99 _ (by kernel_rfl) rfl rfl
            have hx_ := hk_.ext
            clear hk_
            refine flow_plain rfl ?_
            exact gives_pick rfl h92 ⟨Below.refl _ _, h99⟩
          refine allFrom_cons ?_ ?_
          · intro a_ w_ hk_
            have h100 : a_.eval (.tmp 100) = (.bool true) := hk_.got 22 100 _ (by kernel_rfl) rfl rfl
            have hx_ := hk_.ext
            clear hk_
            refine flow_plain rfl ?_
            exact gives_move rfl ⟨Below.refl _ _, h100⟩
          refine allFrom_cons ?_ ?_
          · intro a_ w_ hk_
            have h22 : a_.eval (.tmp 22) = .int .i64 0 := hk_.old 22 (by kernel_rfl)
            have hg_ : a_.eval (.tmp 101) = .bool true := hk_.got 23 101 _ (by kernel_rfl) rfl rfl
            have hy_ := hk_.want 23 _ 101 true rfl rfl hg_
            have hx_ := hk_.ext
            clear hk_
            refine flow_want rfl hy_ ?_
            exact gives_move rfl ⟨Below.refl _ _, h22⟩
          refine allFrom_cons ?_ ?_
          · intro a_ w_ hk_
            have h102 : a_.eval (.tmp 102) = (.int .i64 0) := hk_.got 24 102 _ (by kernel_rfl) rfl rfl
            have hg_ : a_.eval (.tmp 101) = .bool true := hk_.got 23 101 _ (by kernel_rfl) rfl rfl
            have hy_ := hk_.want 23 _ 101 true rfl rfl hg_
            have hx_ := hk_.ext
            clear hk_
            refine flow_want rfl hy_ ?_
            unfold gives
            have hc_ : ∀ v, a_.eval (.const v) = v := fun _ => rfl
            have hn_ : ∀ f, a_.eval (.func f) = .func (.func f) #[] #[] := fun _ => rfl
            clear hy_ hg_
            generalize a_.eval = ρ_ at *
            go_simp
            exact ⟨Below.refl _ _, rfl⟩
          refine allFrom_cons ?_ ?_
          · intro a_ w_ hk_
            have h103 : a_.eval (.tmp 103) = (.bool false) := hk_.got 25 103 _ (by kernel_rfl) rfl rfl
            have hg_ : a_.eval (.tmp 101) = .bool true := hk_.got 23 101 _ (by kernel_rfl) rfl rfl
            have hy_ := hk_.want 23 _ 101 true rfl rfl hg_
            have hx_ := hk_.ext
            clear hk_
            refine flow_want rfl hy_ ?_
            exact gives_move rfl ⟨Below.refl _ _, h103⟩
          refine allFrom_cons ?_ ?_
          · intro a_ w_ hk_
            have h23 : a_.eval (.tmp 23) = .int .i64 20 := hk_.old 23 (by kernel_rfl)
            have hg_ : a_.eval (.tmp 104) = .bool false := hk_.got 26 104 _ (by kernel_rfl) rfl rfl
            have hy_ := hk_.want 26 _ 104 false rfl rfl hg_
            have hx_ := hk_.ext
            clear hk_
            refine flow_want rfl hy_ ?_
            exact gives_move rfl ⟨Below.refl _ _, h23⟩
          refine allFrom_cons ?_ ?_
          · intro a_ w_ hk_
            have h105 : a_.eval (.tmp 105) = (.int .i64 20) := hk_.got 27 105 _ (by kernel_rfl) rfl rfl
            have hg_ : a_.eval (.tmp 104) = .bool false := hk_.got 26 104 _ (by kernel_rfl) rfl rfl
            have hy_ := hk_.want 26 _ 104 false rfl rfl hg_
            have hx_ := hk_.ext
            clear hk_
            refine flow_want rfl hy_ ?_
            unfold gives
            have hc_ : ∀ v, a_.eval (.const v) = v := fun _ => rfl
            have hn_ : ∀ f, a_.eval (.func f) = .func (.func f) #[] #[] := fun _ => rfl
            clear hy_ hg_
            generalize a_.eval = ρ_ at *
            go_simp
            exact ⟨Below.refl _ _, rfl⟩
          refine allFrom_cons ?_ ?_
          · intro a_ w_ hk_
            have h20 : a_.eval (.tmp 20) = .pointer (some ⟨g20, 0, none⟩) := hk_.old 20 (by kernel_rfl)
            have hg_ : a_.eval (.tmp 104) = .bool false := hk_.got 26 104 _ (by kernel_rfl) rfl rfl
            have hy_ := hk_.want 26 _ 104 false rfl rfl hg_
            have hx_ := hk_.ext
            clear hk_
            refine flow_want rfl hy_ ?_
            exact gives_ldC rfl h20 hax (blk_cells (hx14.below hx_ hx14.lt)) ⟨Below.refl _ _, rfl⟩
          refine allFrom_cons ?_ ?_
          · intro a_ w_ hk_
            have h11 : a_.eval (.tmp 11) = .pointer (some ⟨w.heap.size, 0, none⟩) := hk_.old 11 (by kernel_rfl)
            have hg_ : a_.eval (.tmp 104) = .bool false := hk_.got 26 104 _ (by kernel_rfl) rfl rfl
            have hy_ := hk_.want 26 _ 104 false rfl rfl hg_
            have hx_ := hk_.ext
            clear hk_
            refine flow_want rfl hy_ ?_
            exact gives_ldC rfl h11 har (blk_cells (hk14.below hx_ hk14.lt)) ⟨Below.refl _ _, rfl⟩
          refine allFrom_cons ?_ ?_
          · intro a_ w_ hk_
            have h107 : a_.eval (.tmp 107) = (.agg (X.map cb).toArray) := hk_.got 29 107 _ (by kernel_rfl) rfl rfl
            have h108 : a_.eval (.tmp 108) = (.agg (root.map cb).toArray) := hk_.got 30 108 _ (by kernel_rfl) rfl rfl
            have hg_ : a_.eval (.tmp 104) = .bool false := hk_.got 26 104 _ (by kernel_rfl) rfl rfl
            have hy_ := hk_.want 26 _ 104 false rfl rfl hg_
            have hx_ := hk_.ext
            clear hk_
            refine flow_want rfl hy_ ?_
            unfold gives
            have hc_ : ∀ v, a_.eval (.const v) = v := fun _ => rfl
            have hn_ : ∀ f, a_.eval (.func f) = .func (.func f) #[] #[] := fun _ => rfl
            clear hy_ hg_
            generalize a_.eval = ρ_ at *
            go_simp
            exact ⟨Below.refl _ _, rfl⟩
          refine allFrom_cons ?_ ?_
          · intro a_ w_ hk_
            have h106 : a_.eval (.tmp 106) = (.bool false) := hk_.got 28 106 _ (by kernel_rfl) rfl rfl
            have h109 : a_.eval (.tmp 109) = (.bool false) := hk_.got 31 109 _ (by kernel_rfl) rfl rfl
            have hg_ : a_.eval (.tmp 104) = .bool false := hk_.got 26 104 _ (by kernel_rfl) rfl rfl
            have hy_ := hk_.want 26 _ 104 false rfl rfl hg_
            have hx_ := hk_.ext
            clear hk_
            refine flow_want rfl hy_ ?_
            unfold gives
            have hc_ : ∀ v, a_.eval (.const v) = v := fun _ => rfl
            have hn_ : ∀ f, a_.eval (.func f) = .func (.func f) #[] #[] := fun _ => rfl
            clear hy_ hg_
            generalize a_.eval = ρ_ at *
            go_simp
            exact ⟨Below.refl _ _, rfl⟩
          refine allFrom_cons ?_ ?_
          · intro a_ w_ hk_
            have h104 : a_.eval (.tmp 104) = (.bool false) := hk_.got 26 104 _ (by kernel_rfl) rfl rfl
            have h110 : a_.eval (.tmp 110) = (.bool true) := hk_.got 32 110 _ (by kernel_rfl) rfl rfl
            have hg_ : a_.eval (.tmp 101) = .bool true := hk_.got 23 101 _ (by kernel_rfl) rfl rfl
            have hy_ := hk_.want 23 _ 101 true rfl rfl hg_
            have hx_ := hk_.ext
            clear hk_
            refine flow_want rfl hy_ ?_
            exact gives_pick rfl h104 ⟨Below.refl _ _, h110⟩
          refine allFrom_cons ?_ ?_
          · intro a_ w_ hk_
            have h101 : a_.eval (.tmp 101) = (.bool true) := hk_.got 23 101 _ (by kernel_rfl) rfl rfl
            have h111 : a_.eval (.tmp 111) = (.bool true) := hk_.got 33 111 _ (by kernel_rfl) rfl rfl
            have hx_ := hk_.ext
            clear hk_
            refine flow_plain rfl ?_
            exact gives_pick rfl h101 ⟨Below.refl _ _, h111⟩
          refine allFrom_cons ?_ ?_
          · intro a_ w_ hk_
            have h112 : a_.eval (.tmp 112) = (.bool true) := hk_.got 34 112 _ (by kernel_rfl) rfl rfl
            have hx_ := hk_.ext
            clear hk_
            refine flow_plain rfl ?_
            exact gives_assign rfl ⟨Below.refl _ _, h112⟩
          exact allFrom_nil
        intro f_ w_ hx_ hf_
        have h78 : f_ 78 = (.int .i64 0) := hf_ 0 78 _ (by decide) rfl rfl
        have h79 : f_ 79 = (.bool true) := hf_ 1 79 _ (by decide) rfl rfl
        have h80 : f_ 80 = (.int .i64 0) := hf_ 2 80 _ (by decide) rfl rfl
        have h81 : f_ 81 = (.bool true) := hf_ 3 81 _ (by decide) rfl rfl
        have h82 : f_ 82 = (.bool true) := hf_ 4 82 _ (by decide) rfl rfl
        have h83 : f_ 83 = (.bool true) := hf_ 5 83 _ (by decide) rfl rfl
        have h84 : f_ 84 = (.int .i64 0) := hf_ 6 84 _ (by decide) rfl rfl
        have h85 : f_ 85 = (.bool true) := hf_ 7 85 _ (by decide) rfl rfl
        have h86 : f_ 86 = (.bool true) := hf_ 8 86 _ (by decide) rfl rfl
        have h90 : f_ 90 = (.bool true) := hf_ 12 90 _ (by decide) rfl rfl
        have h91 : f_ 91 = (.bool true) := hf_ 13 91 _ (by decide) rfl rfl
        have h92 : f_ 92 = (.bool true) := hf_ 14 92 _ (by decide) rfl rfl
        have h93 : f_ 93 = (.int .i64 0) := hf_ 15 93 _ (by decide) rfl rfl
        have h94 : f_ 94 = (.bool true) := hf_ 16 94 _ (by decide) rfl rfl
        have h95 : f_ 95 = (.bool true) := hf_ 17 95 _ (by decide) rfl rfl
        have h99 : f_ 99 = (.bool true) := hf_ 21 99 _ (by decide) rfl rfl
        have h100 : f_ 100 = (.bool true) := hf_ 22 100 _ (by decide) rfl rfl
        have h101 : f_ 101 = (.bool true) := hf_ 23 101 _ (by decide) rfl rfl
        have h102 : f_ 102 = (.int .i64 0) := hf_ 24 102 _ (by decide) rfl rfl
        have h103 : f_ 103 = (.bool false) := hf_ 25 103 _ (by decide) rfl rfl
        have h104 : f_ 104 = (.bool false) := hf_ 26 104 _ (by decide) rfl rfl
        have h105 : f_ 105 = (.int .i64 20) := hf_ 27 105 _ (by decide) rfl rfl
        have h106 : f_ 106 = (.bool false) := hf_ 28 106 _ (by decide) rfl rfl
        have h107 : f_ 107 = (.agg (X.map cb).toArray) := hf_ 29 107 _ (by decide) rfl rfl
        have h108 : f_ 108 = (.agg (root.map cb).toArray) := hf_ 30 108 _ (by decide) rfl rfl
        have h109 : f_ 109 = (.bool false) := hf_ 31 109 _ (by decide) rfl rfl
        have h110 : f_ 110 = (.bool true) := hf_ 32 110 _ (by decide) rfl rfl
        have h111 : f_ 111 = (.bool true) := hf_ 33 111 _ (by decide) rfl rfl
        have h112 : f_ 112 = (.bool true) := hf_ 34 112 _ (by decide) rfl rfl
        have h12 : f_ 12 = (.bool true) := hf_ 35 12 _ (by decide) rfl rfl
        simp only [mix, h78, h79, h80, h81, h82, h83, h84, h85, h86, h90, h91, h92, h93, h94, h95, h99, h100, h101, h102, h103, h104, h105, h106, h107, h108, h109, h110, h111, h112, h12]
        clear h78 h79 h80 h81 h82 h83 h84 h85 h86 h90 h91 h92 h93 h94 h95 h99 h100 h101 h102 h103 h104 h105 h106 h107 h108 h109 h110 h111 h112 h12
        clear hf_
        have hbf := bx_trans hb014 hx_
        clear hx_
        go_wp2_with fail
        go_ret
        exact ⟨rfl, hbf⟩
    · obtain rfl : G = J := by rw [HJ.out, if_neg hG]
      have hG1 : (G == 0) = false := by simpa using hG
      have hG2 : (G != 0) = true := by simpa using hG
      clear hG
      refine wp_region_lit ?_
      refine wp_flowSE [0, 1, 3, 7, 15, 31, 63, 127, 255, 511, 1023, 2047, 4095, 8191, 16383, 32767, 65535, 131071, 262143, 524287, 1048575, 2097151, 4194303, 8388607, 16777215, 33554431, 67108863, 134217727, 268435455, 536870911, 1073741823, 2147483647, 4294967295, 8589934591, 17179869183, 34359738367] 36 [false, false, false, false, false, false, false, false, false, false, false, false, true, false, false, false, false, false, false, false, false, false, false, false, false, false, false, false, false, false, false, false, false, false, false, false, false, false, false, false, false, false, false, false, false, false, false, false, false, false, false, false, false, false, false, false, false, false, false, false, false, false, false, false, false, false, false, false, false, false, false, false, false, false, false, false, false, false, true, true, true, true, true, true, true, true, true, true, true, true, true, true, true, true, true, true, true, true, true, true, true, true, true, true, true, true, true, true, true, true, true, true, true] (by kernel_rfl) (by kernel_rfl) (by kernel_rfl) [FP.eq (.int .i64 0), FP.eq (.bool true), FP.eq (.int .i64 0), FP.eq (.bool true), FP.eq (.bool true), FP.eq (.bool true), FP.eq (.int .i64 0), FP.eq (.bool true), FP.eq (.bool true), FP.any, FP.any, FP.any, FP.eq (.bool true), FP.eq (.bool true), FP.eq (.bool true), FP.eq (.int .i64 G), FP.eq (.bool false), FP.eq (.bool false), FP.eq (.int .i64 G), FP.eq (.int .i64 G), FP.eq (.bool true), FP.eq (.bool true), FP.eq (.bool true), FP.eq (.bool true), FP.eq (.int .i64 G), FP.eq (.bool true), FP.eq (.bool true), FP.any, FP.any, FP.any, FP.any, FP.any, FP.any, FP.eq (.bool true), FP.eq (.bool true), FP.eq (.bool true)] ?_ ?_
      · refine allFrom_cons ?_ ?_
        · intro a_ w_ hk_
          have h17 : a_.eval (.tmp 17) = .int .i64 0 := hk_.old 17 (by kernel_rfl)
          have hx_ := hk_.ext
          clear hk_
          refine flow_plain rfl ?_
          exact gives_move rfl ⟨Below.refl _ _, h17⟩
        refine allFrom_cons ?_ ?_
        · intro a_ w_ hk_
          have h78 : a_.eval (.tmp 78) = (.int .i64 0) := hk_.got 0 78 _ (by kernel_rfl) rfl rfl
          have hx_ := hk_.ext
          clear hk_
          refine flow_plain rfl ?_
          unfold gives
          have hc_ : ∀ v, a_.eval (.const v) = v := fun _ => rfl
          have hn_ : ∀ f, a_.eval (.func f) = .func (.func f) #[] #[] := fun _ => rfl
          generalize a_.eval = ρ_ at *
          go_simp
          exact ⟨Below.refl _ _, rfl⟩
        refine allFrom_cons ?_ ?_
        · intro a_ w_ hk_
          have h18 : a_.eval (.tmp 18) = .int .i64 0 := hk_.old 18 (by kernel_rfl)
          have hx_ := hk_.ext
          clear hk_
          refine flow_plain rfl ?_
          exact gives_move rfl ⟨Below.refl _ _, h18⟩
        refine allFrom_cons ?_ ?_
        · intro a_ w_ hk_
          have h80 : a_.eval (.tmp 80) = (.int .i64 0) := hk_.got 2 80 _ (by kernel_rfl) rfl rfl
          have hx_ := hk_.ext
          clear hk_
          refine flow_plain rfl ?_
          unfold gives
          have hc_ : ∀ v, a_.eval (.const v) = v := fun _ => rfl
          have hn_ : ∀ f, a_.eval (.func f) = .func (.func f) #[] #[] := fun _ => rfl
          generalize a_.eval = ρ_ at *
          go_simp
          exact ⟨Below.refl _ _, rfl⟩
        refine allFrom_cons ?_ ?_
        · intro a_ w_ hk_
          have h79 : a_.eval (.tmp 79) = (.bool true) := hk_.got 1 79 _ (by kernel_rfl) rfl rfl
          have h81 : a_.eval (.tmp 81) = (.bool true) := hk_.got 3 81 _ (by kernel_rfl) rfl rfl
          have hx_ := hk_.ext
          clear hk_
          refine flow_plain rfl ?_
          unfold gives
          have hc_ : ∀ v, a_.eval (.const v) = v := fun _ => rfl
          have hn_ : ∀ f, a_.eval (.func f) = .func (.func f) #[] #[] := fun _ => rfl
          generalize a_.eval = ρ_ at *
          go_simp
          exact ⟨Below.refl _ _, rfl⟩
        refine allFrom_cons ?_ ?_
        · intro a_ w_ hk_
          have h82 : a_.eval (.tmp 82) = (.bool true) := hk_.got 4 82 _ (by kernel_rfl) rfl rfl
          have hx_ := hk_.ext
          clear hk_
          refine flow_plain rfl ?_
          exact gives_move rfl ⟨Below.refl _ _, h82⟩
        refine allFrom_cons ?_ ?_
        · intro a_ w_ hk_
          have h17 : a_.eval (.tmp 17) = .int .i64 0 := hk_.old 17 (by kernel_rfl)
          have hg_ : a_.eval (.tmp 83) = .bool true := hk_.got 5 83 _ (by kernel_rfl) rfl rfl
          have hy_ := hk_.want 5 _ 83 true rfl rfl hg_
          have hx_ := hk_.ext
          clear hk_
          refine flow_want rfl hy_ ?_
          exact gives_move rfl ⟨Below.refl _ _, h17⟩
        refine allFrom_cons ?_ ?_
        · intro a_ w_ hk_
          have h84 : a_.eval (.tmp 84) = (.int .i64 0) := hk_.got 6 84 _ (by kernel_rfl) rfl rfl
          have hg_ : a_.eval (.tmp 83) = .bool true := hk_.got 5 83 _ (by kernel_rfl) rfl rfl
          have hy_ := hk_.want 5 _ 83 true rfl rfl hg_
          have hx_ := hk_.ext
          clear hk_
          refine flow_want rfl hy_ ?_
          unfold gives
          have hc_ : ∀ v, a_.eval (.const v) = v := fun _ => rfl
          have hn_ : ∀ f, a_.eval (.func f) = .func (.func f) #[] #[] := fun _ => rfl
          clear hy_ hg_
          generalize a_.eval = ρ_ at *
          go_simp
          exact ⟨Below.refl _ _, rfl⟩
        refine allFrom_cons ?_ ?_
        · intro a_ w_ hk_
          have h85 : a_.eval (.tmp 85) = (.bool true) := hk_.got 7 85 _ (by kernel_rfl) rfl rfl
          have hg_ : a_.eval (.tmp 83) = .bool true := hk_.got 5 83 _ (by kernel_rfl) rfl rfl
          have hy_ := hk_.want 5 _ 83 true rfl rfl hg_
          have hx_ := hk_.ext
          clear hk_
          refine flow_want rfl hy_ ?_
          exact gives_move rfl ⟨Below.refl _ _, h85⟩
        refine allFrom_cons ?_ ?_
        · intro a_ w_ hk_
          have h17 : a_.eval (.tmp 17) = .int .i64 0 := hk_.old 17 (by kernel_rfl)
          have hg_ : a_.eval (.tmp 86) = .bool true := hk_.got 8 86 _ (by kernel_rfl) rfl rfl
          have hy_ := hk_.want 8 _ 86 true rfl rfl hg_
          have hx_ := hk_.ext
          clear hk_
          exact flow_skip rfl hy_ (by decide) trivial
        refine allFrom_cons ?_ ?_
        · intro a_ w_ hk_
          have h18 : a_.eval (.tmp 18) = .int .i64 0 := hk_.old 18 (by kernel_rfl)
          have hg_ : a_.eval (.tmp 86) = .bool true := hk_.got 8 86 _ (by kernel_rfl) rfl rfl
          have hy_ := hk_.want 8 _ 86 true rfl rfl hg_
          have hx_ := hk_.ext
          clear hk_
          exact flow_skip rfl hy_ (by decide) trivial
        refine allFrom_cons ?_ ?_
        · intro a_ w_ hk_
          have hg_ : a_.eval (.tmp 86) = .bool true := hk_.got 8 86 _ (by kernel_rfl) rfl rfl
          have hy_ := hk_.want 8 _ 86 true rfl rfl hg_
          have hx_ := hk_.ext
          clear hk_
          exact flow_skip rfl hy_ (by decide) trivial
        refine allFrom_cons ?_ ?_
        · intro a_ w_ hk_
          have h86 : a_.eval (.tmp 86) = (.bool true) := hk_.got 8 86 _ (by kernel_rfl) rfl rfl
          have hg_ : a_.eval (.tmp 83) = .bool true := hk_.got 5 83 _ (by kernel_rfl) rfl rfl
          have hy_ := hk_.want 5 _ 83 true rfl rfl hg_
          have hx_ := hk_.ext
          clear hk_
          refine flow_want rfl hy_ ?_
          exact gives_pick rfl h86 ⟨Below.refl _ _, rfl⟩
        refine allFrom_cons ?_ ?_
        · intro a_ w_ hk_
          have h83 : a_.eval (.tmp 83) = (.bool true) := hk_.got 5 83 _ (by kernel_rfl) rfl rfl
          have h90 : a_.eval (.tmp 90) = (.bool true) := hk_.got 12 90 _ (by kernel_rfl) rfl rfl
          have hx_ := hk_.ext
          clear hk_
          refine flow_plain rfl ?_
          exact gives_pick rfl h83 ⟨Below.refl _ _, h90⟩
        refine allFrom_cons ?_ ?_
        · intro a_ w_ hk_
          have h91 : a_.eval (.tmp 91) = (.bool true) := hk_.got 13 91 _ (by kernel_rfl) rfl rfl
          have hx_ := hk_.ext
          clear hk_
          refine flow_plain rfl ?_
          exact gives_move rfl ⟨Below.refl _ _, h91⟩
        refine allFrom_cons ?_ ?_
        · intro a_ w_ hk_
          have h22 : a_.eval (.tmp 22) = .int .i64 G := hk_.old 22 (by kernel_rfl)
          have hg_ : a_.eval (.tmp 92) = .bool true := hk_.got 14 92 _ (by kernel_rfl) rfl rfl
          have hy_ := hk_.want 14 _ 92 true rfl rfl hg_
          have hx_ := hk_.ext
          clear hk_
          refine flow_want rfl hy_ ?_
          exact gives_move rfl ⟨Below.refl _ _, h22⟩
        refine allFrom_cons ?_ ?_
        · intro a_ w_ hk_
          have h93 : a_.eval (.tmp 93) = (.int .i64 G) := hk_.got 15 93 _ (by kernel_rfl) rfl rfl
          have hg_ : a_.eval (.tmp 92) = .bool true := hk_.got 14 92 _ (by kernel_rfl) rfl rfl
          have hy_ := hk_.want 14 _ 92 true rfl rfl hg_
          have hx_ := hk_.ext
          clear hk_
          refine flow_want rfl hy_ ?_
          unfold gives
          have hc_ : ∀ v, a_.eval (.const v) = v := fun _ => rfl
          have hn_ : ∀ f, a_.eval (.func f) = .func (.func f) #[] #[] := fun _ => rfl
          clear hy_ hg_
          generalize a_.eval = ρ_ at *
          go_simp
          exact ⟨Below.refl _ _, rfl⟩
        refine allFrom_cons ?_ ?_
        · intro a_ w_ hk_
          have h94 : a_.eval (.tmp 94) = (.bool false) := hk_.got 16 94 _ (by kernel_rfl) rfl rfl
          have hg_ : a_.eval (.tmp 92) = .bool true := hk_.got 14 92 _ (by kernel_rfl) rfl rfl
          have hy_ := hk_.want 14 _ 92 true rfl rfl hg_
          have hx_ := hk_.ext
          clear hk_
          refine flow_want rfl hy_ ?_
          exact gives_move rfl ⟨Below.refl _ _, h94⟩
        refine allFrom_cons ?_ ?_
        · intro a_ w_ hk_
          have h23 : a_.eval (.tmp 23) = .int .i64 G := hk_.old 23 (by kernel_rfl)
          have hg_ : a_.eval (.tmp 95) = .bool false := hk_.got 17 95 _ (by kernel_rfl) rfl rfl
          have hy_ := hk_.want 17 _ 95 false rfl rfl hg_
          have hx_ := hk_.ext
          clear hk_
          refine flow_want rfl hy_ ?_
          exact gives_move rfl ⟨Below.refl _ _, h23⟩
        refine allFrom_cons ?_ ?_
        · intro a_ w_ hk_
          have h22 : a_.eval (.tmp 22) = .int .i64 G := hk_.old 22 (by kernel_rfl)
          have hg_ : a_.eval (.tmp 95) = .bool false := hk_.got 17 95 _ (by kernel_rfl) rfl rfl
          have hy_ := hk_.want 17 _ 95 false rfl rfl hg_
          have hx_ := hk_.ext
          clear hk_
          refine flow_want rfl hy_ ?_
          exact gives_move rfl ⟨Below.refl _ _, h22⟩
        refine allFrom_cons ?_ ?_
        · intro a_ w_ hk_
          have h96 : a_.eval (.tmp 96) = (.int .i64 G) := hk_.got 18 96 _ (by kernel_rfl) rfl rfl
          have h97 : a_.eval (.tmp 97) = (.int .i64 G) := hk_.got 19 97 _ (by kernel_rfl) rfl rfl
          have hg_ : a_.eval (.tmp 95) = .bool false := hk_.got 17 95 _ (by kernel_rfl) rfl rfl
          have hy_ := hk_.want 17 _ 95 false rfl rfl hg_
          have hx_ := hk_.ext
          clear hk_
          refine flow_want rfl hy_ ?_
          unfold gives
          have hc_ : ∀ v, a_.eval (.const v) = v := fun _ => rfl
          have hn_ : ∀ f, a_.eval (.func f) = .func (.func f) #[] #[] := fun _ => rfl
          clear hy_ hg_
          generalize a_.eval = ρ_ at *
          go_simp
          exact ⟨Below.refl _ _, rfl⟩
        refine allFrom_cons ?_ ?_
        · intro a_ w_ hk_
          have h95 : a_.eval (.tmp 95) = (.bool false) := hk_.got 17 95 _ (by kernel_rfl) rfl rfl
          have h98 : a_.eval (.tmp 98) = (.bool true) := hk_.got 20 98 _ (by kernel_rfl) rfl rfl
          have hg_ : a_.eval (.tmp 92) = .bool true := hk_.got 14 92 _ (by kernel_rfl) rfl rfl
          have hy_ := hk_.want 14 _ 92 true rfl rfl hg_
          have hx_ := hk_.ext
          clear hk_
          refine flow_want rfl hy_ ?_
          exact gives_pick rfl h95 ⟨Below.refl _ _, h98⟩
        refine allFrom_cons ?_ ?_
        · intro a_ w_ hk_
          have h92 : a_.eval (.tmp 92) = (.bool true) := hk_.got 14 92 _ (by kernel_rfl) rfl rfl
          have h99 : a_.eval (.tmp 99) = (.bool true) := hk_.got 21 99 _ (by kernel_rfl) rfl rfl
          have hx_ := hk_.ext
          clear hk_
          refine flow_plain rfl ?_
          exact gives_pick rfl h92 ⟨Below.refl _ _, h99⟩
        refine allFrom_cons ?_ ?_
        · intro a_ w_ hk_
          have h100 : a_.eval (.tmp 100) = (.bool true) := hk_.got 22 100 _ (by kernel_rfl) rfl rfl
          have hx_ := hk_.ext
          clear hk_
          refine flow_plain rfl ?_
          exact gives_move rfl ⟨Below.refl _ _, h100⟩
        refine allFrom_cons ?_ ?_
        · intro a_ w_ hk_
          have h22 : a_.eval (.tmp 22) = .int .i64 G := hk_.old 22 (by kernel_rfl)
          have hg_ : a_.eval (.tmp 101) = .bool true := hk_.got 23 101 _ (by kernel_rfl) rfl rfl
          have hy_ := hk_.want 23 _ 101 true rfl rfl hg_
          have hx_ := hk_.ext
          clear hk_
          refine flow_want rfl hy_ ?_
          exact gives_move rfl ⟨Below.refl _ _, h22⟩
        refine allFrom_cons ?_ ?_
        · intro a_ w_ hk_
          have h102 : a_.eval (.tmp 102) = (.int .i64 G) := hk_.got 24 102 _ (by kernel_rfl) rfl rfl
          have hg_ : a_.eval (.tmp 101) = .bool true := hk_.got 23 101 _ (by kernel_rfl) rfl rfl
          have hy_ := hk_.want 23 _ 101 true rfl rfl hg_
          have hx_ := hk_.ext
          clear hk_
          refine flow_want rfl hy_ ?_
          unfold gives
          have hc_ : ∀ v, a_.eval (.const v) = v := fun _ => rfl
          have hn_ : ∀ f, a_.eval (.func f) = .func (.func f) #[] #[] := fun _ => rfl
          clear hy_ hg_
          generalize a_.eval = ρ_ at *
          go_simp
          exact ⟨Below.refl _ _, rfl⟩
        refine allFrom_cons ?_ ?_
        · intro a_ w_ hk_
          have h103 : a_.eval (.tmp 103) = (.bool true) := hk_.got 25 103 _ (by kernel_rfl) rfl rfl
          have hg_ : a_.eval (.tmp 101) = .bool true := hk_.got 23 101 _ (by kernel_rfl) rfl rfl
          have hy_ := hk_.want 23 _ 101 true rfl rfl hg_
          have hx_ := hk_.ext
          clear hk_
          refine flow_want rfl hy_ ?_
          exact gives_move rfl ⟨Below.refl _ _, h103⟩
        refine allFrom_cons ?_ ?_
        · intro a_ w_ hk_
          have h23 : a_.eval (.tmp 23) = .int .i64 G := hk_.old 23 (by kernel_rfl)
          have hg_ : a_.eval (.tmp 104) = .bool true := hk_.got 26 104 _ (by kernel_rfl) rfl rfl
          have hy_ := hk_.want 26 _ 104 true rfl rfl hg_
          have hx_ := hk_.ext
          clear hk_
          exact flow_skip rfl hy_ (by decide) trivial
        refine allFrom_cons ?_ ?_
        · intro a_ w_ hk_
          have hg_ : a_.eval (.tmp 104) = .bool true := hk_.got 26 104 _ (by kernel_rfl) rfl rfl
          have hy_ := hk_.want 26 _ 104 true rfl rfl hg_
          have hx_ := hk_.ext
          clear hk_
          exact flow_skip rfl hy_ (by decide) trivial
        refine allFrom_cons ?_ ?_
        · intro a_ w_ hk_
          have h20 : a_.eval (.tmp 20) = .pointer (some ⟨g20, 0, none⟩) := hk_.old 20 (by kernel_rfl)
          have hg_ : a_.eval (.tmp 104) = .bool true := hk_.got 26 104 _ (by kernel_rfl) rfl rfl
          have hy_ := hk_.want 26 _ 104 true rfl rfl hg_
          have hx_ := hk_.ext
          clear hk_
          exact flow_skip rfl hy_ (by decide) trivial
        refine allFrom_cons ?_ ?_
        · intro a_ w_ hk_
          have h11 : a_.eval (.tmp 11) = .pointer (some ⟨w.heap.size, 0, none⟩) := hk_.old 11 (by kernel_rfl)
          have hg_ : a_.eval (.tmp 104) = .bool true := hk_.got 26 104 _ (by kernel_rfl) rfl rfl
          have hy_ := hk_.want 26 _ 104 true rfl rfl hg_
          have hx_ := hk_.ext
          clear hk_
          exact flow_skip rfl hy_ (by decide) trivial
        refine allFrom_cons ?_ ?_
        · intro a_ w_ hk_
          have hg_ : a_.eval (.tmp 104) = .bool true := hk_.got 26 104 _ (by kernel_rfl) rfl rfl
          have hy_ := hk_.want 26 _ 104 true rfl rfl hg_
          have hx_ := hk_.ext
          clear hk_
          exact flow_skip rfl hy_ (by decide) trivial
        refine allFrom_cons ?_ ?_
        · intro a_ w_ hk_
          have hg_ : a_.eval (.tmp 104) = .bool true := hk_.got 26 104 _ (by kernel_rfl) rfl rfl
          have hy_ := hk_.want 26 _ 104 true rfl rfl hg_
          have hx_ := hk_.ext
          clear hk_
          exact flow_skip rfl hy_ (by decide) trivial
        refine allFrom_cons ?_ ?_
        · intro a_ w_ hk_
          have h104 : a_.eval (.tmp 104) = (.bool true) := hk_.got 26 104 _ (by kernel_rfl) rfl rfl
          have hg_ : a_.eval (.tmp 101) = .bool true := hk_.got 23 101 _ (by kernel_rfl) rfl rfl
          have hy_ := hk_.want 23 _ 101 true rfl rfl hg_
          have hx_ := hk_.ext
          clear hk_
          refine flow_want rfl hy_ ?_
          exact gives_pick rfl h104 ⟨Below.refl _ _, rfl⟩
        refine allFrom_cons ?_ ?_
        · intro a_ w_ hk_
          have h101 : a_.eval (.tmp 101) = (.bool true) := hk_.got 23 101 _ (by kernel_rfl) rfl rfl
          have h111 : a_.eval (.tmp 111) = (.bool true) := hk_.got 33 111 _ (by kernel_rfl) rfl rfl
          have hx_ := hk_.ext
          clear hk_
          refine flow_plain rfl ?_
          exact gives_pick rfl h101 ⟨Below.refl _ _, h111⟩
        refine allFrom_cons ?_ ?_
        · intro a_ w_ hk_
          have h112 : a_.eval (.tmp 112) = (.bool true) := hk_.got 34 112 _ (by kernel_rfl) rfl rfl
          have hx_ := hk_.ext
          clear hk_
          refine flow_plain rfl ?_
          exact gives_assign rfl ⟨Below.refl _ _, h112⟩
        exact allFrom_nil
      intro f_ w_ hx_ hf_
      have h78 : f_ 78 = (.int .i64 0) := hf_ 0 78 _ (by decide) rfl rfl
      have h79 : f_ 79 = (.bool true) := hf_ 1 79 _ (by decide) rfl rfl
      have h80 : f_ 80 = (.int .i64 0) := hf_ 2 80 _ (by decide) rfl rfl
      have h81 : f_ 81 = (.bool true) := hf_ 3 81 _ (by decide) rfl rfl
      have h82 : f_ 82 = (.bool true) := hf_ 4 82 _ (by decide) rfl rfl
      have h83 : f_ 83 = (.bool true) := hf_ 5 83 _ (by decide) rfl rfl
      have h84 : f_ 84 = (.int .i64 0) := hf_ 6 84 _ (by decide) rfl rfl
      have h85 : f_ 85 = (.bool true) := hf_ 7 85 _ (by decide) rfl rfl
      have h86 : f_ 86 = (.bool true) := hf_ 8 86 _ (by decide) rfl rfl
      have h90 : f_ 90 = (.bool true) := hf_ 12 90 _ (by decide) rfl rfl
      have h91 : f_ 91 = (.bool true) := hf_ 13 91 _ (by decide) rfl rfl
      have h92 : f_ 92 = (.bool true) := hf_ 14 92 _ (by decide) rfl rfl
      have h93 : f_ 93 = (.int .i64 G) := hf_ 15 93 _ (by decide) rfl rfl
      have h94 : f_ 94 = (.bool false) := hf_ 16 94 _ (by decide) rfl rfl
      have h95 : f_ 95 = (.bool false) := hf_ 17 95 _ (by decide) rfl rfl
      have h96 : f_ 96 = (.int .i64 G) := hf_ 18 96 _ (by decide) rfl rfl
      have h97 : f_ 97 = (.int .i64 G) := hf_ 19 97 _ (by decide) rfl rfl
      have h98 : f_ 98 = (.bool true) := hf_ 20 98 _ (by decide) rfl rfl
      have h99 : f_ 99 = (.bool true) := hf_ 21 99 _ (by decide) rfl rfl
      have h100 : f_ 100 = (.bool true) := hf_ 22 100 _ (by decide) rfl rfl
      have h101 : f_ 101 = (.bool true) := hf_ 23 101 _ (by decide) rfl rfl
      have h102 : f_ 102 = (.int .i64 G) := hf_ 24 102 _ (by decide) rfl rfl
      have h103 : f_ 103 = (.bool true) := hf_ 25 103 _ (by decide) rfl rfl
      have h104 : f_ 104 = (.bool true) := hf_ 26 104 _ (by decide) rfl rfl
      have h111 : f_ 111 = (.bool true) := hf_ 33 111 _ (by decide) rfl rfl
      have h112 : f_ 112 = (.bool true) := hf_ 34 112 _ (by decide) rfl rfl
      have h12 : f_ 12 = (.bool true) := hf_ 35 12 _ (by decide) rfl rfl
      simp only [mix, h78, h79, h80, h81, h82, h83, h84, h85, h86, h90, h91, h92, h93, h94, h95, h96, h97, h98, h99, h100, h101, h102, h103, h104, h111, h112, h12]
      clear h78 h79 h80 h81 h82 h83 h84 h85 h86 h90 h91 h92 h93 h94 h95 h96 h97 h98 h99 h100 h101 h102 h103 h104 h111 h112 h12
      clear hf_
      have hbf := bx_trans hb014 hx_
      clear hx_
      go_wp2_with fail
      go_ret
      exact ⟨rfl, hbf⟩
  · have hE1 : (E == 0) = false := by simpa using hE
    clear hE
    by_cases hG : G = 0
    · subst hG
      by_cases hX : X = root
      · obtain rfl : J = 0 := by rw [HJ.out, if_pos rfl, if_pos hX]
        rw [show (X == root) = true by simpa using hX] at heq
        clear hX
        refine wp_region_lit ?_
        refine wp_flowSE [0, 1, 3, 7, 15, 31, 63, 127, 255, 511, 1023, 2047, 4095, 8191, 16383, 32767, 65535, 131071, 262143, 524287, 1048575, 2097151, 4194303, 8388607, 16777215, 33554431, 67108863, 134217727, 268435455, 536870911, 1073741823, 2147483647, 4294967295, 8589934591, 17179869183, 34359738367] 36 [false, false, false, false, false, false, false, false, false, false, false, false, true, false, false, false, false, false, false, false, false, false, false, false, false, false, false, false, false, false, false, false, false, false, false, false, false, false, false, false, false, false, false, false, false, false, false, false, false, false, false, false, false, false, false, false, false, false, false, false, false, false, false, false, false, false, false, false, false, false, false, false, false, false, false, false, false, false, true, true, true, true, true, true, true, true, true, true, true, true, true, true, true, true, true, true, true, true, true, true, true, true, true, true, true, true, true, true, true, true, true, true, true] (by kernel_rfl) (by kernel_rfl) (by kernel_rfl) [FP.eq (.int .i64 E), FP.eq (.bool false), FP.eq (.int .i64 E), FP.eq (.bool false), FP.eq (.bool true), FP.eq (.bool true), FP.eq (.int .i64 E), FP.eq (.bool false), FP.eq (.bool false), FP.eq (.int .i64 E), FP.eq (.int .i64 E), FP.eq (.bool true), FP.eq (.bool true), FP.eq (.bool true), FP.eq (.bool true), FP.eq (.int .i64 0), FP.eq (.bool true), FP.eq (.bool true), FP.any, FP.any, FP.any, FP.eq (.bool true), FP.eq (.bool true), FP.eq (.bool true), FP.eq (.int .i64 0), FP.eq (.bool false), FP.eq (.bool false), FP.eq (.int .i64 0), FP.eq (.bool true), FP.eq (.agg (X.map cb).toArray), FP.eq (.agg (root.map cb).toArray), FP.eq (.bool true), FP.eq (.bool true), FP.eq (.bool true), FP.eq (.bool true), FP.eq (.bool true)] ?_ ?_
        · refine allFrom_cons ?_ ?_
          · intro a_ w_ hk_
            have h17 : a_.eval (.tmp 17) = .int .i64 E := hk_.old 17 (by kernel_rfl)
            have hx_ := hk_.ext
            clear hk_
            refine flow_plain rfl ?_
            exact gives_move rfl ⟨Below.refl _ _, h17⟩
          refine allFrom_cons ?_ ?_
          · intro a_ w_ hk_
            have h78 : a_.eval (.tmp 78) = (.int .i64 E) := hk_.got 0 78 _ (by kernel_rfl) rfl rfl
            have hx_ := hk_.ext
            clear hk_
            refine flow_plain rfl ?_
            unfold gives
            have hc_ : ∀ v, a_.eval (.const v) = v := fun _ => rfl
            have hn_ : ∀ f, a_.eval (.func f) = .func (.func f) #[] #[] := fun _ => rfl
            generalize a_.eval = ρ_ at *
            go_simp
            exact ⟨Below.refl _ _, rfl⟩
          refine allFrom_cons ?_ ?_
          · intro a_ w_ hk_
            have h18 : a_.eval (.tmp 18) = .int .i64 E := hk_.old 18 (by kernel_rfl)
            have hx_ := hk_.ext
            clear hk_
            refine flow_plain rfl ?_
            exact gives_move rfl ⟨Below.refl _ _, h18⟩
          refine allFrom_cons ?_ ?_
          · intro a_ w_ hk_
            have h80 : a_.eval (.tmp 80) = (.int .i64 E) := hk_.got 2 80 _ (by kernel_rfl) rfl rfl
            have hx_ := hk_.ext
            clear hk_
            refine flow_plain rfl ?_
            unfold gives
            have hc_ : ∀ v, a_.eval (.const v) = v := fun _ => rfl
            have hn_ : ∀ f, a_.eval (.func f) = .func (.func f) #[] #[] := fun _ => rfl
            generalize a_.eval = ρ_ at *
            go_simp
            exact ⟨Below.refl _ _, rfl⟩
          refine allFrom_cons ?_ ?_
          · intro a_ w_ hk_
            have h79 : a_.eval (.tmp 79) = (.bool false) := hk_.got 1 79 _ (by kernel_rfl) rfl rfl
            have h81 : a_.eval (.tmp 81) = (.bool false) := hk_.got 3 81 _ (by kernel_rfl) rfl rfl
            have hx_ := hk_.ext
            clear hk_
            refine flow_plain rfl ?_
            unfold gives
            have hc_ : ∀ v, a_.eval (.const v) = v := fun _ => rfl
            have hn_ : ∀ f, a_.eval (.func f) = .func (.func f) #[] #[] := fun _ => rfl
            generalize a_.eval = ρ_ at *
            go_simp
            exact ⟨Below.refl _ _, rfl⟩
          refine allFrom_cons ?_ ?_
          · intro a_ w_ hk_
            have h82 : a_.eval (.tmp 82) = (.bool true) := hk_.got 4 82 _ (by kernel_rfl) rfl rfl
            have hx_ := hk_.ext
            clear hk_
            refine flow_plain rfl ?_
            exact gives_move rfl ⟨Below.refl _ _, h82⟩
          refine allFrom_cons ?_ ?_
          · intro a_ w_ hk_
            have h17 : a_.eval (.tmp 17) = .int .i64 E := hk_.old 17 (by kernel_rfl)
            have hg_ : a_.eval (.tmp 83) = .bool true := hk_.got 5 83 _ (by kernel_rfl) rfl rfl
            have hy_ := hk_.want 5 _ 83 true rfl rfl hg_
            have hx_ := hk_.ext
            clear hk_
            refine flow_want rfl hy_ ?_
            exact gives_move rfl ⟨Below.refl _ _, h17⟩
          refine allFrom_cons ?_ ?_
          · intro a_ w_ hk_
            have h84 : a_.eval (.tmp 84) = (.int .i64 E) := hk_.got 6 84 _ (by kernel_rfl) rfl rfl
            have hg_ : a_.eval (.tmp 83) = .bool true := hk_.got 5 83 _ (by kernel_rfl) rfl rfl
            have hy_ := hk_.want 5 _ 83 true rfl rfl hg_
            have hx_ := hk_.ext
            clear hk_
            refine flow_want rfl hy_ ?_
            unfold gives
            have hc_ : ∀ v, a_.eval (.const v) = v := fun _ => rfl
            have hn_ : ∀ f, a_.eval (.func f) = .func (.func f) #[] #[] := fun _ => rfl
            clear hy_ hg_
            generalize a_.eval = ρ_ at *
            go_simp
            exact ⟨Below.refl _ _, rfl⟩
          refine allFrom_cons ?_ ?_
          · intro a_ w_ hk_
            have h85 : a_.eval (.tmp 85) = (.bool false) := hk_.got 7 85 _ (by kernel_rfl) rfl rfl
            have hg_ : a_.eval (.tmp 83) = .bool true := hk_.got 5 83 _ (by kernel_rfl) rfl rfl
            have hy_ := hk_.want 5 _ 83 true rfl rfl hg_
            have hx_ := hk_.ext
            clear hk_
            refine flow_want rfl hy_ ?_
            exact gives_move rfl ⟨Below.refl _ _, h85⟩
          refine allFrom_cons ?_ ?_
          · intro a_ w_ hk_
            have h17 : a_.eval (.tmp 17) = .int .i64 E := hk_.old 17 (by kernel_rfl)
            have hg_ : a_.eval (.tmp 86) = .bool false := hk_.got 8 86 _ (by kernel_rfl) rfl rfl
            have hy_ := hk_.want 8 _ 86 false rfl rfl hg_
            have hx_ := hk_.ext
            clear hk_
            refine flow_want rfl hy_ ?_
            exact gives_move rfl ⟨Below.refl _ _, h17⟩
          refine allFrom_cons ?_ ?_
          · intro a_ w_ hk_
            have h18 : a_.eval (.tmp 18) = .int .i64 E := hk_.old 18 (by kernel_rfl)
            have hg_ : a_.eval (.tmp 86) = .bool false := hk_.got 8 86 _ (by kernel_rfl) rfl rfl
            have hy_ := hk_.want 8 _ 86 false rfl rfl hg_
            have hx_ := hk_.ext
            clear hk_
            refine flow_want rfl hy_ ?_
            exact gives_move rfl ⟨Below.refl _ _, h18⟩
          refine allFrom_cons ?_ ?_
          · intro a_ w_ hk_
            have h87 : a_.eval (.tmp 87) = (.int .i64 E) := hk_.got 9 87 _ (by kernel_rfl) rfl rfl
            have h88 : a_.eval (.tmp 88) = (.int .i64 E) := hk_.got 10 88 _ (by kernel_rfl) rfl rfl
            have hg_ : a_.eval (.tmp 86) = .bool false := hk_.got 8 86 _ (by kernel_rfl) rfl rfl
            have hy_ := hk_.want 8 _ 86 false rfl rfl hg_
            have hx_ := hk_.ext
            clear hk_
            refine flow_want rfl hy_ ?_
            unfold gives
            have hc_ : ∀ v, a_.eval (.const v) = v := fun _ => rfl
            have hn_ : ∀ f, a_.eval (.func f) = .func (.func f) #[] #[] := fun _ => rfl
            clear hy_ hg_
            generalize a_.eval = ρ_ at *
            go_simp
            exact ⟨Below.refl _ _, rfl⟩
          refine allFrom_cons ?_ ?_
          · intro a_ w_ hk_
            have h86 : a_.eval (.tmp 86) = (.bool false) := hk_.got 8 86 _ (by kernel_rfl) rfl rfl
            have h89 : a_.eval (.tmp 89) = (.bool true) := hk_.got 11 89 _ (by kernel_rfl) rfl rfl
            have hg_ : a_.eval (.tmp 83) = .bool true := hk_.got 5 83 _ (by kernel_rfl) rfl rfl
            have hy_ := hk_.want 5 _ 83 true rfl rfl hg_
            have hx_ := hk_.ext
            clear hk_
            refine flow_want rfl hy_ ?_
            exact gives_pick rfl h86 ⟨Below.refl _ _, h89⟩
          refine allFrom_cons ?_ ?_
          · intro a_ w_ hk_
            have h83 : a_.eval (.tmp 83) = (.bool true) := hk_.got 5 83 _ (by kernel_rfl) rfl rfl
            have h90 : a_.eval (.tmp 90) = (.bool true) := hk_.got 12 90 _ (by kernel_rfl) rfl rfl
            have hx_ := hk_.ext
            clear hk_
            refine flow_plain rfl ?_
            exact gives_pick rfl h83 ⟨Below.refl _ _, h90⟩
          refine allFrom_cons ?_ ?_
          · intro a_ w_ hk_
            have h91 : a_.eval (.tmp 91) = (.bool true) := hk_.got 13 91 _ (by kernel_rfl) rfl rfl
            have hx_ := hk_.ext
            clear hk_
            refine flow_plain rfl ?_
            exact gives_move rfl ⟨Below.refl _ _, h91⟩
          refine allFrom_cons ?_ ?_
          · intro a_ w_ hk_
            have h22 : a_.eval (.tmp 22) = .int .i64 0 := hk_.old 22 (by kernel_rfl)
            have hg_ : a_.eval (.tmp 92) = .bool true := hk_.got 14 92 _ (by kernel_rfl) rfl rfl
            have hy_ := hk_.want 14 _ 92 true rfl rfl hg_
            have hx_ := hk_.ext
            clear hk_
            refine flow_want rfl hy_ ?_
            exact gives_move rfl ⟨Below.refl _ _, h22⟩
          refine allFrom_cons ?_ ?_
          · intro a_ w_ hk_
            have h93 : a_.eval (.tmp 93) = (.int .i64 0) := hk_.got 15 93 _ (by kernel_rfl) rfl rfl
            have hg_ : a_.eval (.tmp 92) = .bool true := hk_.got 14 92 _ (by kernel_rfl) rfl rfl
            have hy_ := hk_.want 14 _ 92 true rfl rfl hg_
            have hx_ := hk_.ext
            clear hk_
            refine flow_want rfl hy_ ?_
            unfold gives
            have hc_ : ∀ v, a_.eval (.const v) = v := fun _ => rfl
            have hn_ : ∀ f, a_.eval (.func f) = .func (.func f) #[] #[] := fun _ => rfl
            clear hy_ hg_
            generalize a_.eval = ρ_ at *
            go_simp
            exact ⟨Below.refl _ _, rfl⟩
          refine allFrom_cons ?_ ?_
          · intro a_ w_ hk_
            have h94 : a_.eval (.tmp 94) = (.bool true) := hk_.got 16 94 _ (by kernel_rfl) rfl rfl
            have hg_ : a_.eval (.tmp 92) = .bool true := hk_.got 14 92 _ (by kernel_rfl) rfl rfl
            have hy_ := hk_.want 14 _ 92 true rfl rfl hg_
            have hx_ := hk_.ext
            clear hk_
            refine flow_want rfl hy_ ?_
            exact gives_move rfl ⟨Below.refl _ _, h94⟩
          refine allFrom_cons ?_ ?_
          · intro a_ w_ hk_
            have h23 : a_.eval (.tmp 23) = .int .i64 0 := hk_.old 23 (by kernel_rfl)
            have hg_ : a_.eval (.tmp 95) = .bool true := hk_.got 17 95 _ (by kernel_rfl) rfl rfl
            have hy_ := hk_.want 17 _ 95 true rfl rfl hg_
            have hx_ := hk_.ext
            clear hk_
            exact flow_skip rfl hy_ (by decide) trivial
          refine allFrom_cons ?_ ?_
          · intro a_ w_ hk_
            have h22 : a_.eval (.tmp 22) = .int .i64 0 := hk_.old 22 (by kernel_rfl)
            have hg_ : a_.eval (.tmp 95) = .bool true := hk_.got 17 95 _ (by kernel_rfl) rfl rfl
            have hy_ := hk_.want 17 _ 95 true rfl rfl hg_
            have hx_ := hk_.ext
            clear hk_
            exact flow_skip rfl hy_ (by decide) trivial
          refine allFrom_cons ?_ ?_
          · intro a_ w_ hk_
            have hg_ : a_.eval (.tmp 95) = .bool true := hk_.got 17 95 _ (by kernel_rfl) rfl rfl
            have hy_ := hk_.want 17 _ 95 true rfl rfl hg_
            have hx_ := hk_.ext
            clear hk_
            exact flow_skip rfl hy_ (by decide) trivial
          refine allFrom_cons ?_ ?_
          · intro a_ w_ hk_
            have h95 : a_.eval (.tmp 95) = (.bool true) := hk_.got 17 95 _ (by kernel_rfl) rfl rfl
            have hg_ : a_.eval (.tmp 92) = .bool true := hk_.got 14 92 _ (by kernel_rfl) rfl rfl
            have hy_ := hk_.want 14 _ 92 true rfl rfl hg_
            have hx_ := hk_.ext
            clear hk_
            refine flow_want rfl hy_ ?_
            exact gives_pick rfl h95 ⟨Below.refl _ _, rfl⟩
          refine allFrom_cons ?_ ?_
          · intro a_ w_ hk_
            have h92 : a_.eval (.tmp 92) = (.bool true) := hk_.got 14 92 _ (by kernel_rfl) rfl rfl
            have h99 : a_.eval (.tmp 99) = (.bool true) := hk_.got 21 99 _ (by kernel_rfl) rfl rfl
            have hx_ := hk_.ext
            clear hk_
            refine flow_plain rfl ?_
            exact gives_pick rfl h92 ⟨Below.refl _ _, h99⟩
          refine allFrom_cons ?_ ?_
          · intro a_ w_ hk_
            have h100 : a_.eval (.tmp 100) = (.bool true) := hk_.got 22 100 _ (by kernel_rfl) rfl rfl
            have hx_ := hk_.ext
            clear hk_
            refine flow_plain rfl ?_
            exact gives_move rfl ⟨Below.refl _ _, h100⟩
          refine allFrom_cons ?_ ?_
          · intro a_ w_ hk_
            have h22 : a_.eval (.tmp 22) = .int .i64 0 := hk_.old 22 (by kernel_rfl)
            have hg_ : a_.eval (.tmp 101) = .bool true := hk_.got 23 101 _ (by kernel_rfl) rfl rfl
            have hy_ := hk_.want 23 _ 101 true rfl rfl hg_
            have hx_ := hk_.ext
            clear hk_
            refine flow_want rfl hy_ ?_
            exact gives_move rfl ⟨Below.refl _ _, h22⟩
          refine allFrom_cons ?_ ?_
          · intro a_ w_ hk_
            have h102 : a_.eval (.tmp 102) = (.int .i64 0) := hk_.got 24 102 _ (by kernel_rfl) rfl rfl
            have hg_ : a_.eval (.tmp 101) = .bool true := hk_.got 23 101 _ (by kernel_rfl) rfl rfl
            have hy_ := hk_.want 23 _ 101 true rfl rfl hg_
            have hx_ := hk_.ext
            clear hk_
            refine flow_want rfl hy_ ?_
            unfold gives
            have hc_ : ∀ v, a_.eval (.const v) = v := fun _ => rfl
            have hn_ : ∀ f, a_.eval (.func f) = .func (.func f) #[] #[] := fun _ => rfl
            clear hy_ hg_
            generalize a_.eval = ρ_ at *
            go_simp
            exact ⟨Below.refl _ _, rfl⟩
          refine allFrom_cons ?_ ?_
          · intro a_ w_ hk_
            have h103 : a_.eval (.tmp 103) = (.bool false) := hk_.got 25 103 _ (by kernel_rfl) rfl rfl
            have hg_ : a_.eval (.tmp 101) = .bool true := hk_.got 23 101 _ (by kernel_rfl) rfl rfl
            have hy_ := hk_.want 23 _ 101 true rfl rfl hg_
            have hx_ := hk_.ext
            clear hk_
            refine flow_want rfl hy_ ?_
            exact gives_move rfl ⟨Below.refl _ _, h103⟩
          refine allFrom_cons ?_ ?_
          · intro a_ w_ hk_
            have h23 : a_.eval (.tmp 23) = .int .i64 0 := hk_.old 23 (by kernel_rfl)
            have hg_ : a_.eval (.tmp 104) = .bool false := hk_.got 26 104 _ (by kernel_rfl) rfl rfl
            have hy_ := hk_.want 26 _ 104 false rfl rfl hg_
            have hx_ := hk_.ext
            clear hk_
            refine flow_want rfl hy_ ?_
            exact gives_move rfl ⟨Below.refl _ _, h23⟩
          refine allFrom_cons ?_ ?_
          · intro a_ w_ hk_
            have h105 : a_.eval (.tmp 105) = (.int .i64 0) := hk_.got 27 105 _ (by kernel_rfl) rfl rfl
            have hg_ : a_.eval (.tmp 104) = .bool false := hk_.got 26 104 _ (by kernel_rfl) rfl rfl
            have hy_ := hk_.want 26 _ 104 false rfl rfl hg_
            have hx_ := hk_.ext
            clear hk_
            refine flow_want rfl hy_ ?_
            unfold gives
            have hc_ : ∀ v, a_.eval (.const v) = v := fun _ => rfl
            have hn_ : ∀ f, a_.eval (.func f) = .func (.func f) #[] #[] := fun _ => rfl
            clear hy_ hg_
            generalize a_.eval = ρ_ at *
            go_simp
            exact ⟨Below.refl _ _, rfl⟩
          refine allFrom_cons ?_ ?_
          · intro a_ w_ hk_
            have h20 : a_.eval (.tmp 20) = .pointer (some ⟨g20, 0, none⟩) := hk_.old 20 (by kernel_rfl)
            have hg_ : a_.eval (.tmp 104) = .bool false := hk_.got 26 104 _ (by kernel_rfl) rfl rfl
            have hy_ := hk_.want 26 _ 104 false rfl rfl hg_
            have hx_ := hk_.ext
            clear hk_
            refine flow_want rfl hy_ ?_
            exact gives_ldC rfl h20 hax (blk_cells (hx14.below hx_ hx14.lt)) ⟨Below.refl _ _, rfl⟩
          refine allFrom_cons ?_ ?_
          · intro a_ w_ hk_
            have h11 : a_.eval (.tmp 11) = .pointer (some ⟨w.heap.size, 0, none⟩) := hk_.old 11 (by kernel_rfl)
            have hg_ : a_.eval (.tmp 104) = .bool false := hk_.got 26 104 _ (by kernel_rfl) rfl rfl
            have hy_ := hk_.want 26 _ 104 false rfl rfl hg_
            have hx_ := hk_.ext
            clear hk_
            refine flow_want rfl hy_ ?_
            exact gives_ldC rfl h11 har (blk_cells (hk14.below hx_ hk14.lt)) ⟨Below.refl _ _, rfl⟩
          refine allFrom_cons ?_ ?_
          · intro a_ w_ hk_
            have h107 : a_.eval (.tmp 107) = (.agg (X.map cb).toArray) := hk_.got 29 107 _ (by kernel_rfl) rfl rfl
            have h108 : a_.eval (.tmp 108) = (.agg (root.map cb).toArray) := hk_.got 30 108 _ (by kernel_rfl) rfl rfl
            have hg_ : a_.eval (.tmp 104) = .bool false := hk_.got 26 104 _ (by kernel_rfl) rfl rfl
            have hy_ := hk_.want 26 _ 104 false rfl rfl hg_
            have hx_ := hk_.ext
            clear hk_
            refine flow_want rfl hy_ ?_
            unfold gives
            have hc_ : ∀ v, a_.eval (.const v) = v := fun _ => rfl
            have hn_ : ∀ f, a_.eval (.func f) = .func (.func f) #[] #[] := fun _ => rfl
            clear hy_ hg_
            generalize a_.eval = ρ_ at *
            go_simp
            exact ⟨Below.refl _ _, rfl⟩
          refine allFrom_cons ?_ ?_
          · intro a_ w_ hk_
            have h106 : a_.eval (.tmp 106) = (.bool true) := hk_.got 28 106 _ (by kernel_rfl) rfl rfl
            have h109 : a_.eval (.tmp 109) = (.bool true) := hk_.got 31 109 _ (by kernel_rfl) rfl rfl
            have hg_ : a_.eval (.tmp 104) = .bool false := hk_.got 26 104 _ (by kernel_rfl) rfl rfl
            have hy_ := hk_.want 26 _ 104 false rfl rfl hg_
            have hx_ := hk_.ext
            clear hk_
            refine flow_want rfl hy_ ?_
            unfold gives
            have hc_ : ∀ v, a_.eval (.const v) = v := fun _ => rfl
            have hn_ : ∀ f, a_.eval (.func f) = .func (.func f) #[] #[] := fun _ => rfl
            clear hy_ hg_
            generalize a_.eval = ρ_ at *
            go_simp
            exact ⟨Below.refl _ _, rfl⟩
          refine allFrom_cons ?_ ?_
          · intro a_ w_ hk_
            have h104 : a_.eval (.tmp 104) = (.bool false) := hk_.got 26 104 _ (by kernel_rfl) rfl rfl
            have h110 : a_.eval (.tmp 110) = (.bool true) := hk_.got 32 110 _ (by kernel_rfl) rfl rfl
            have hg_ : a_.eval (.tmp 101) = .bool true := hk_.got 23 101 _ (by kernel_rfl) rfl rfl
            have hy_ := hk_.want 23 _ 101 true rfl rfl hg_
            have hx_ := hk_.ext
            clear hk_
            refine flow_want rfl hy_ ?_
            exact gives_pick rfl h104 ⟨Below.refl _ _, h110⟩
          refine allFrom_cons ?_ ?_
          · intro a_ w_ hk_
            have h101 : a_.eval (.tmp 101) = (.bool true) := hk_.got 23 101 _ (by kernel_rfl) rfl rfl
            have h111 : a_.eval (.tmp 111) = (.bool true) := hk_.got 33 111 _ (by kernel_rfl) rfl rfl
            have hx_ := hk_.ext
            clear hk_
            refine flow_plain rfl ?_
            exact gives_pick rfl h101 ⟨Below.refl _ _, h111⟩
          refine allFrom_cons ?_ ?_
          · intro a_ w_ hk_
            have h112 : a_.eval (.tmp 112) = (.bool true) := hk_.got 34 112 _ (by kernel_rfl) rfl rfl
            have hx_ := hk_.ext
            clear hk_
            refine flow_plain rfl ?_
            exact gives_assign rfl ⟨Below.refl _ _, h112⟩
          exact allFrom_nil
        intro f_ w_ hx_ hf_
        have h78 : f_ 78 = (.int .i64 E) := hf_ 0 78 _ (by decide) rfl rfl
        have h79 : f_ 79 = (.bool false) := hf_ 1 79 _ (by decide) rfl rfl
        have h80 : f_ 80 = (.int .i64 E) := hf_ 2 80 _ (by decide) rfl rfl
        have h81 : f_ 81 = (.bool false) := hf_ 3 81 _ (by decide) rfl rfl
        have h82 : f_ 82 = (.bool true) := hf_ 4 82 _ (by decide) rfl rfl
        have h83 : f_ 83 = (.bool true) := hf_ 5 83 _ (by decide) rfl rfl
        have h84 : f_ 84 = (.int .i64 E) := hf_ 6 84 _ (by decide) rfl rfl
        have h85 : f_ 85 = (.bool false) := hf_ 7 85 _ (by decide) rfl rfl
        have h86 : f_ 86 = (.bool false) := hf_ 8 86 _ (by decide) rfl rfl
        have h87 : f_ 87 = (.int .i64 E) := hf_ 9 87 _ (by decide) rfl rfl
        have h88 : f_ 88 = (.int .i64 E) := hf_ 10 88 _ (by decide) rfl rfl
        have h89 : f_ 89 = (.bool true) := hf_ 11 89 _ (by decide) rfl rfl
        have h90 : f_ 90 = (.bool true) := hf_ 12 90 _ (by decide) rfl rfl
        have h91 : f_ 91 = (.bool true) := hf_ 13 91 _ (by decide) rfl rfl
        have h92 : f_ 92 = (.bool true) := hf_ 14 92 _ (by decide) rfl rfl
        have h93 : f_ 93 = (.int .i64 0) := hf_ 15 93 _ (by decide) rfl rfl
        have h94 : f_ 94 = (.bool true) := hf_ 16 94 _ (by decide) rfl rfl
        have h95 : f_ 95 = (.bool true) := hf_ 17 95 _ (by decide) rfl rfl
        have h99 : f_ 99 = (.bool true) := hf_ 21 99 _ (by decide) rfl rfl
        have h100 : f_ 100 = (.bool true) := hf_ 22 100 _ (by decide) rfl rfl
        have h101 : f_ 101 = (.bool true) := hf_ 23 101 _ (by decide) rfl rfl
        have h102 : f_ 102 = (.int .i64 0) := hf_ 24 102 _ (by decide) rfl rfl
        have h103 : f_ 103 = (.bool false) := hf_ 25 103 _ (by decide) rfl rfl
        have h104 : f_ 104 = (.bool false) := hf_ 26 104 _ (by decide) rfl rfl
        have h105 : f_ 105 = (.int .i64 0) := hf_ 27 105 _ (by decide) rfl rfl
        have h106 : f_ 106 = (.bool true) := hf_ 28 106 _ (by decide) rfl rfl
        have h107 : f_ 107 = (.agg (X.map cb).toArray) := hf_ 29 107 _ (by decide) rfl rfl
        have h108 : f_ 108 = (.agg (root.map cb).toArray) := hf_ 30 108 _ (by decide) rfl rfl
        have h109 : f_ 109 = (.bool true) := hf_ 31 109 _ (by decide) rfl rfl
        have h110 : f_ 110 = (.bool true) := hf_ 32 110 _ (by decide) rfl rfl
        have h111 : f_ 111 = (.bool true) := hf_ 33 111 _ (by decide) rfl rfl
        have h112 : f_ 112 = (.bool true) := hf_ 34 112 _ (by decide) rfl rfl
        have h12 : f_ 12 = (.bool true) := hf_ 35 12 _ (by decide) rfl rfl
        simp only [mix, h78, h79, h80, h81, h82, h83, h84, h85, h86, h87, h88, h89, h90, h91, h92, h93, h94, h95, h99, h100, h101, h102, h103, h104, h105, h106, h107, h108, h109, h110, h111, h112, h12]
        clear h78 h79 h80 h81 h82 h83 h84 h85 h86 h87 h88 h89 h90 h91 h92 h93 h94 h95 h99 h100 h101 h102 h103 h104 h105 h106 h107 h108 h109 h110 h111 h112 h12
        clear hf_
        have hbf := bx_trans hb014 hx_
        clear hx_
        go_wp2_with fail
        go_ret
        exact ⟨rfl, hbf⟩
      · obtain rfl : J = 20 := by rw [HJ.out, if_pos rfl, if_neg hX]
        rw [show (X == root) = false by simpa using hX] at heq
        clear hX
        refine wp_region_lit ?_
        refine wp_flowSE [0, 1, 3, 7, 15, 31, 63, 127, 255, 511, 1023, 2047, 4095, 8191, 16383, 32767, 65535, 131071, 262143, 524287, 1048575, 2097151, 4194303, 8388607, 16777215, 33554431, 67108863, 134217727, 268435455, 536870911, 1073741823, 2147483647, 4294967295, 8589934591, 17179869183, 34359738367] 36 [false, false, false, false, false, false, false, false, false, false, false, false, true, false, false, false, false, false, false, false, false, false, false, false, false, false, false, false, false, false, false, false, false, false, false, false, false, false, false, false, false, false, false, false, false, false, false, false, false, false, false, false, false, false, false, false, false, false, false, false, false, false, false, false, false, false, false, false, false, false, false, false, false, false, false, false, false, false, true, true, true, true, true, true, true, true, true, true, true, true, true, true, true, true, true, true, true, true, true, true, true, true, true, true, true, true, true, true, true, true, true, true, true] (by kernel_rfl) (by kernel_rfl) (by kernel_rfl) [FP.eq (.int .i64 E), FP.eq (.bool false), FP.eq (.int .i64 E), FP.eq (.bool false), FP.eq (.bool true), FP.eq (.bool true), FP.eq (.int .i64 E), FP.eq (.bool false), FP.eq (.bool false), FP.eq (.int .i64 E), FP.eq (.int .i64 E), FP.eq (.bool true), FP.eq (.bool true), FP.eq (.bool true), FP.eq (.bool true), FP.eq (.int .i64 0), FP.eq (.bool true), FP.eq (.bool true), FP.any, FP.any, FP.any, FP.eq (.bool true), FP.eq (.bool true), FP.eq (.bool true), FP.eq (.int .i64 0), FP.eq (.bool false), FP.eq (.bool false), FP.eq (.int .i64 20), FP.eq (.bool false), FP.eq (.agg (X.map cb).toArray), FP.eq (.agg (root.map cb).toArray), FP.eq (.bool false), FP.eq (.bool true), FP.eq (.bool true), FP.eq (.bool true), FP.eq (.bool true)] ?_ ?_
        · refine allFrom_cons ?_ ?_
          · intro a_ w_ hk_
            have h17 : a_.eval (.tmp 17) = .int .i64 E := hk_.old 17 (by kernel_rfl)
            have hx_ := hk_.ext
            clear hk_
            refine flow_plain rfl ?_
            exact gives_move rfl ⟨Below.refl _ _, h17⟩
          refine allFrom_cons ?_ ?_
          · intro a_ w_ hk_
            have h78 : a_.eval (.tmp 78) = (.int .i64 E) := hk_.got 0 78 _ (by kernel_rfl) rfl rfl
            have hx_ := hk_.ext
            clear hk_
            refine flow_plain rfl ?_
            unfold gives
            have hc_ : ∀ v, a_.eval (.const v) = v := fun _ => rfl
            have hn_ : ∀ f, a_.eval (.func f) = .func (.func f) #[] #[] := fun _ => rfl
            generalize a_.eval = ρ_ at *
            go_simp
            exact ⟨Below.refl _ _, rfl⟩
          refine allFrom_cons ?_ ?_
          · intro a_ w_ hk_
            have h18 : a_.eval (.tmp 18) = .int .i64 E := hk_.old 18 (by kernel_rfl)
            have hx_ := hk_.ext
            clear hk_
            refine flow_plain rfl ?_
            exact gives_move rfl ⟨Below.refl _ _, h18⟩
          refine allFrom_cons ?_ ?_
          · intro a_ w_ hk_
            have h80 : a_.eval (.tmp 80) = (.int .i64 E) := hk_.got 2 80 _ (by kernel_rfl) rfl rfl
            have hx_ := hk_.ext
            clear hk_
            refine flow_plain rfl ?_
            unfold gives
            have hc_ : ∀ v, a_.eval (.const v) = v := fun _ => rfl
            have hn_ : ∀ f, a_.eval (.func f) = .func (.func f) #[] #[] := fun _ => rfl
            generalize a_.eval = ρ_ at *
            go_simp
            exact ⟨Below.refl _ _, rfl⟩
          refine allFrom_cons ?_ ?_
          · intro a_ w_ hk_
            have h79 : a_.eval (.tmp 79) = (.bool false) := hk_.got 1 79 _ (by kernel_rfl) rfl rfl
            have h81 : a_.eval (.tmp 81) = (.bool false) := hk_.got 3 81 _ (by kernel_rfl) rfl rfl
            have hx_ := hk_.ext
            clear hk_
            refine flow_plain rfl ?_
            unfold gives
            have hc_ : ∀ v, a_.eval (.const v) = v := fun _ => rfl
            have hn_ : ∀ f, a_.eval (.func f) = .func (.func f) #[] #[] := fun _ => rfl
            generalize a_.eval = ρ_ at *
            go_simp
            exact ⟨Below.refl _ _, rfl⟩
          refine allFrom_cons ?_ ?_
          · intro a_ w_ hk_
            have h82 : a_.eval (.tmp 82) = (.bool true) := hk_.got 4 82 _ (by kernel_rfl) rfl rfl
            have hx_ := hk_.ext
            clear hk_
            refine flow_plain rfl ?_
            exact gives_move rfl ⟨Below.refl _ _, h82⟩
          refine allFrom_cons ?_ ?_
          · intro a_ w_ hk_
            have h17 : a_.eval (.tmp 17) = .int .i64 E := hk_.old 17 (by kernel_rfl)
            have hg_ : a_.eval (.tmp 83) = .bool true := hk_.got 5 83 _ (by kernel_rfl) rfl rfl
            have hy_ := hk_.want 5 _ 83 true rfl rfl hg_
            have hx_ := hk_.ext
            clear hk_
            refine flow_want rfl hy_ ?_
            exact gives_move rfl ⟨Below.refl _ _, h17⟩
          refine allFrom_cons ?_ ?_
          · intro a_ w_ hk_
            have h84 : a_.eval (.tmp 84) = (.int .i64 E) := hk_.got 6 84 _ (by kernel_rfl) rfl rfl
            have hg_ : a_.eval (.tmp 83) = .bool true := hk_.got 5 83 _ (by kernel_rfl) rfl rfl
            have hy_ := hk_.want 5 _ 83 true rfl rfl hg_
            have hx_ := hk_.ext
            clear hk_
            refine flow_want rfl hy_ ?_
            unfold gives
            have hc_ : ∀ v, a_.eval (.const v) = v := fun _ => rfl
            have hn_ : ∀ f, a_.eval (.func f) = .func (.func f) #[] #[] := fun _ => rfl
            clear hy_ hg_
            generalize a_.eval = ρ_ at *
            go_simp
            exact ⟨Below.refl _ _, rfl⟩
          refine allFrom_cons ?_ ?_
          · intro a_ w_ hk_
            have h85 : a_.eval (.tmp 85) = (.bool false) := hk_.got 7 85 _ (by kernel_rfl) rfl rfl
            have hg_ : a_.eval (.tmp 83) = .bool true := hk_.got 5 83 _ (by kernel_rfl) rfl rfl
            have hy_ := hk_.want 5 _ 83 true rfl rfl hg_
            have hx_ := hk_.ext
            clear hk_
            refine flow_want rfl hy_ ?_
            exact gives_move rfl ⟨Below.refl _ _, h85⟩
          refine allFrom_cons ?_ ?_
          · intro a_ w_ hk_
            have h17 : a_.eval (.tmp 17) = .int .i64 E := hk_.old 17 (by kernel_rfl)
            have hg_ : a_.eval (.tmp 86) = .bool false := hk_.got 8 86 _ (by kernel_rfl) rfl rfl
            have hy_ := hk_.want 8 _ 86 false rfl rfl hg_
            have hx_ := hk_.ext
            clear hk_
            refine flow_want rfl hy_ ?_
            exact gives_move rfl ⟨Below.refl _ _, h17⟩
          refine allFrom_cons ?_ ?_
          · intro a_ w_ hk_
            have h18 : a_.eval (.tmp 18) = .int .i64 E := hk_.old 18 (by kernel_rfl)
            have hg_ : a_.eval (.tmp 86) = .bool false := hk_.got 8 86 _ (by kernel_rfl) rfl rfl
            have hy_ := hk_.want 8 _ 86 false rfl rfl hg_
            have hx_ := hk_.ext
            clear hk_
            refine flow_want rfl hy_ ?_
            exact gives_move rfl ⟨Below.refl _ _, h18⟩
          refine allFrom_cons ?_ ?_
          · intro a_ w_ hk_
            have h87 : a_.eval (.tmp 87) = (.int .i64 E) := hk_.got 9 87 _ (by kernel_rfl) rfl rfl
            have h88 : a_.eval (.tmp 88) = (.int .i64 E) := hk_.got 10 88 _ (by kernel_rfl) rfl rfl
            have hg_ : a_.eval (.tmp 86) = .bool false := hk_.got 8 86 _ (by kernel_rfl) rfl rfl
            have hy_ := hk_.want 8 _ 86 false rfl rfl hg_
            have hx_ := hk_.ext
            clear hk_
            refine flow_want rfl hy_ ?_
            unfold gives
            have hc_ : ∀ v, a_.eval (.const v) = v := fun _ => rfl
            have hn_ : ∀ f, a_.eval (.func f) = .func (.func f) #[] #[] := fun _ => rfl
            clear hy_ hg_
            generalize a_.eval = ρ_ at *
            go_simp
            exact ⟨Below.refl _ _, rfl⟩
          refine allFrom_cons ?_ ?_
          · intro a_ w_ hk_
            have h86 : a_.eval (.tmp 86) = (.bool false) := hk_.got 8 86 _ (by kernel_rfl) rfl rfl
            have h89 : a_.eval (.tmp 89) = (.bool true) := hk_.got 11 89 _ (by kernel_rfl) rfl rfl
            have hg_ : a_.eval (.tmp 83) = .bool true := hk_.got 5 83 _ (by kernel_rfl) rfl rfl
            have hy_ := hk_.want 5 _ 83 true rfl rfl hg_
            have hx_ := hk_.ext
            clear hk_
            refine flow_want rfl hy_ ?_
            exact gives_pick rfl h86 ⟨Below.refl _ _, h89⟩
          refine allFrom_cons ?_ ?_
          · intro a_ w_ hk_
            have h83 : a_.eval (.tmp 83) = (.bool true) := hk_.got 5 83 _ (by kernel_rfl) rfl rfl
            have h90 : a_.eval (.tmp 90) = (.bool true) := hk_.got 12 90 _ (by kernel_rfl) rfl rfl
            have hx_ := hk_.ext
            clear hk_
            refine flow_plain rfl ?_
            exact gives_pick rfl h83 ⟨Below.refl _ _, h90⟩
          refine allFrom_cons ?_ ?_
          · intro a_ w_ hk_
            have h91 : a_.eval (.tmp 91) = (.bool true) := hk_.got 13 91 _ (by kernel_rfl) rfl rfl
            have hx_ := hk_.ext
            clear hk_
            refine flow_plain rfl ?_
            exact gives_move rfl ⟨Below.refl _ _, h91⟩
          refine allFrom_cons ?_ ?_
          · intro a_ w_ hk_
            have h22 : a_.eval (.tmp 22) = .int .i64 0 := hk_.old 22 (by kernel_rfl)
            have hg_ : a_.eval (.tmp 92) = .bool true := hk_.got 14 92 _ (by kernel_rfl) rfl rfl
            have hy_ := hk_.want 14 _ 92 true rfl rfl hg_
            have hx_ := hk_.ext
            clear hk_
            refine flow_want rfl hy_ ?_
            exact gives_move rfl ⟨Below.refl _ _, h22⟩
          refine allFrom_cons ?_ ?_
          · intro a_ w_ hk_
            have h93 : a_.eval (.tmp 93) = (.int .i64 0) := hk_.got 15 93 _ (by kernel_rfl) rfl rfl
            have hg_ : a_.eval (.tmp 92) = .bool true := hk_.got 14 92 _ (by kernel_rfl) rfl rfl
            have hy_ := hk_.want 14 _ 92 true rfl rfl hg_
            have hx_ := hk_.ext
            clear hk_
            refine flow_want rfl hy_ ?_
            unfold gives
            have hc_ : ∀ v, a_.eval (.const v) = v := fun _ => rfl
            have hn_ : ∀ f, a_.eval (.func f) = .func (.func f) #[] #[] := fun _ => rfl
            clear hy_ hg_
            generalize a_.eval = ρ_ at *
            go_simp
            exact ⟨Below.refl _ _, rfl⟩
          refine allFrom_cons ?_ ?_
          · intro a_ w_ hk_
            have h94 : a_.eval (.tmp 94) = (.bool true) := hk_.got 16 94 _ (by kernel_rfl) rfl rfl
            have hg_ : a_.eval (.tmp 92) = .bool true := hk_.got 14 92 _ (by kernel_rfl) rfl rfl
            have hy_ := hk_.want 14 _ 92 true rfl rfl hg_
            have hx_ := hk_.ext
            clear hk_
            refine flow_want rfl hy_ ?_
            exact gives_move rfl ⟨Below.refl _ _, h94⟩
          refine allFrom_cons ?_ ?_
          · intro a_ w_ hk_
            have h23 : a_.eval (.tmp 23) = .int .i64 20 := hk_.old 23 (by kernel_rfl)
            have hg_ : a_.eval (.tmp 95) = .bool true := hk_.got 17 95 _ (by kernel_rfl) rfl rfl
            have hy_ := hk_.want 17 _ 95 true rfl rfl hg_
            have hx_ := hk_.ext
            clear hk_
            exact flow_skip rfl hy_ (by decide) trivial
          refine allFrom_cons ?_ ?_
          · intro a_ w_ hk_
            have h22 : a_.eval (.tmp 22) = .int .i64 0 := hk_.old 22 (by kernel_rfl)
            have hg_ : a_.eval (.tmp 95) = .bool true := hk_.got 17 95 _ (by kernel_rfl) rfl rfl
            have hy_ := hk_.want 17 _ 95 true rfl rfl hg_
            have hx_ := hk_.ext
            clear hk_
            exact flow_skip rfl hy_ (by decide) trivial
          refine allFrom_cons ?_ ?_
          · intro a_ w_ hk_
            have hg_ : a_.eval (.tmp 95) = .bool true := hk_.got 17 95 _ (by kernel_rfl) rfl rfl
            have hy_ := hk_.want 17 _ 95 true rfl rfl hg_
            have hx_ := hk_.ext
            clear hk_
            exact flow_skip rfl hy_ (by decide) trivial
          refine allFrom_cons ?_ ?_
          · intro a_ w_ hk_
            have h95 : a_.eval (.tmp 95) = (.bool true) := hk_.got 17 95 _ (by kernel_rfl) rfl rfl
            have hg_ : a_.eval (.tmp 92) = .bool true := hk_.got 14 92 _ (by kernel_rfl) rfl rfl
            have hy_ := hk_.want 14 _ 92 true rfl rfl hg_
            have hx_ := hk_.ext
            clear hk_
            refine flow_want rfl hy_ ?_
            exact gives_pick rfl h95 ⟨Below.refl _ _, rfl⟩
          refine allFrom_cons ?_ ?_
          · intro a_ w_ hk_
            have h92 : a_.eval (.tmp 92) = (.bool true) := hk_.got 14 92 _ (by kernel_rfl) rfl rfl
            have h99 : a_.eval (.tmp 99) = (.bool true) := hk_.got 21 99 _ (by kernel_rfl) rfl rfl
            have hx_ := hk_.ext
            clear hk_
            refine flow_plain rfl ?_
            exact gives_pick rfl h92 ⟨Below.refl _ _, h99⟩
          refine allFrom_cons ?_ ?_
          · intro a_ w_ hk_
            have h100 : a_.eval (.tmp 100) = (.bool true) := hk_.got 22 100 _ (by kernel_rfl) rfl rfl
            have hx_ := hk_.ext
            clear hk_
            refine flow_plain rfl ?_
            exact gives_move rfl ⟨Below.refl _ _, h100⟩
          refine allFrom_cons ?_ ?_
          · intro a_ w_ hk_
            have h22 : a_.eval (.tmp 22) = .int .i64 0 := hk_.old 22 (by kernel_rfl)
            have hg_ : a_.eval (.tmp 101) = .bool true := hk_.got 23 101 _ (by kernel_rfl) rfl rfl
            have hy_ := hk_.want 23 _ 101 true rfl rfl hg_
            have hx_ := hk_.ext
            clear hk_
            refine flow_want rfl hy_ ?_
            exact gives_move rfl ⟨Below.refl _ _, h22⟩
          refine allFrom_cons ?_ ?_
          · intro a_ w_ hk_
            have h102 : a_.eval (.tmp 102) = (.int .i64 0) := hk_.got 24 102 _ (by kernel_rfl) rfl rfl
            have hg_ : a_.eval (.tmp 101) = .bool true := hk_.got 23 101 _ (by kernel_rfl) rfl rfl
            have hy_ := hk_.want 23 _ 101 true rfl rfl hg_
            have hx_ := hk_.ext
            clear hk_
            refine flow_want rfl hy_ ?_
            unfold gives
            have hc_ : ∀ v, a_.eval (.const v) = v := fun _ => rfl
            have hn_ : ∀ f, a_.eval (.func f) = .func (.func f) #[] #[] := fun _ => rfl
            clear hy_ hg_
            generalize a_.eval = ρ_ at *
            go_simp
            exact ⟨Below.refl _ _, rfl⟩
          refine allFrom_cons ?_ ?_
          · intro a_ w_ hk_
            have h103 : a_.eval (.tmp 103) = (.bool false) := hk_.got 25 103 _ (by kernel_rfl) rfl rfl
            have hg_ : a_.eval (.tmp 101) = .bool true := hk_.got 23 101 _ (by kernel_rfl) rfl rfl
            have hy_ := hk_.want 23 _ 101 true rfl rfl hg_
            have hx_ := hk_.ext
            clear hk_
            refine flow_want rfl hy_ ?_
            exact gives_move rfl ⟨Below.refl _ _, h103⟩
          refine allFrom_cons ?_ ?_
          · intro a_ w_ hk_
            have h23 : a_.eval (.tmp 23) = .int .i64 20 := hk_.old 23 (by kernel_rfl)
            have hg_ : a_.eval (.tmp 104) = .bool false := hk_.got 26 104 _ (by kernel_rfl) rfl rfl
            have hy_ := hk_.want 26 _ 104 false rfl rfl hg_
            have hx_ := hk_.ext
            clear hk_
            refine flow_want rfl hy_ ?_
            exact gives_move rfl ⟨Below.refl _ _, h23⟩
          refine allFrom_cons ?_ ?_
          · intro a_ w_ hk_
            have h105 : a_.eval (.tmp 105) = (.int .i64 20) := hk_.got 27 105 _ (by kernel_rfl) rfl rfl
            have hg_ : a_.eval (.tmp 104) = .bool false := hk_.got 26 104 _ (by kernel_rfl) rfl rfl
            have hy_ := hk_.want 26 _ 104 false rfl rfl hg_
            have hx_ := hk_.ext
            clear hk_
            refine flow_want rfl hy_ ?_
            unfold gives
            have hc_ : ∀ v, a_.eval (.const v) = v := fun _ => rfl
            have hn_ : ∀ f, a_.eval (.func f) = .func (.func f) #[] #[] := fun _ => rfl
            clear hy_ hg_
            generalize a_.eval = ρ_ at *
            go_simp
            exact ⟨Below.refl _ _, rfl⟩
          refine allFrom_cons ?_ ?_
          · intro a_ w_ hk_
            have h20 : a_.eval (.tmp 20) = .pointer (some ⟨g20, 0, none⟩) := hk_.old 20 (by kernel_rfl)
            have hg_ : a_.eval (.tmp 104) = .bool false := hk_.got 26 104 _ (by kernel_rfl) rfl rfl
            have hy_ := hk_.want 26 _ 104 false rfl rfl hg_
            have hx_ := hk_.ext
            clear hk_
            refine flow_want rfl hy_ ?_
            exact gives_ldC rfl h20 hax (blk_cells (hx14.below hx_ hx14.lt)) ⟨Below.refl _ _, rfl⟩
          refine allFrom_cons ?_ ?_
          · intro a_ w_ hk_
            have h11 : a_.eval (.tmp 11) = .pointer (some ⟨w.heap.size, 0, none⟩) := hk_.old 11 (by kernel_rfl)
            have hg_ : a_.eval (.tmp 104) = .bool false := hk_.got 26 104 _ (by kernel_rfl) rfl rfl
            have hy_ := hk_.want 26 _ 104 false rfl rfl hg_
            have hx_ := hk_.ext
            clear hk_
            refine flow_want rfl hy_ ?_
            exact gives_ldC rfl h11 har (blk_cells (hk14.below hx_ hk14.lt)) ⟨Below.refl _ _, rfl⟩
          refine allFrom_cons ?_ ?_
          · intro a_ w_ hk_
            have h107 : a_.eval (.tmp 107) = (.agg (X.map cb).toArray) := hk_.got 29 107 _ (by kernel_rfl) rfl rfl
            have h108 : a_.eval (.tmp 108) = (.agg (root.map cb).toArray) := hk_.got 30 108 _ (by kernel_rfl) rfl rfl
            have hg_ : a_.eval (.tmp 104) = .bool false := hk_.got 26 104 _ (by kernel_rfl) rfl rfl
            have hy_ := hk_.want 26 _ 104 false rfl rfl hg_
            have hx_ := hk_.ext
            clear hk_
            refine flow_want rfl hy_ ?_
            unfold gives
            have hc_ : ∀ v, a_.eval (.const v) = v := fun _ => rfl
            have hn_ : ∀ f, a_.eval (.func f) = .func (.func f) #[] #[] := fun _ => rfl
            clear hy_ hg_
            generalize a_.eval = ρ_ at *
            go_simp
            exact ⟨Below.refl _ _, rfl⟩
          refine allFrom_cons ?_ ?_
          · intro a_ w_ hk_
            have h106 : a_.eval (.tmp 106) = (.bool false) := hk_.got 28 106 _ (by kernel_rfl) rfl rfl
            have h109 : a_.eval (.tmp 109) = (.bool false) := hk_.got 31 109 _ (by kernel_rfl) rfl rfl
            have hg_ : a_.eval (.tmp 104) = .bool false := hk_.got 26 104 _ (by kernel_rfl) rfl rfl
            have hy_ := hk_.want 26 _ 104 false rfl rfl hg_
            have hx_ := hk_.ext
            clear hk_
            refine flow_want rfl hy_ ?_
            unfold gives
            have hc_ : ∀ v, a_.eval (.const v) = v := fun _ => rfl
            have hn_ : ∀ f, a_.eval (.func f) = .func (.func f) #[] #[] := fun _ => rfl
            clear hy_ hg_
            generalize a_.eval = ρ_ at *
            go_simp
            exact ⟨Below.refl _ _, rfl⟩
          refine allFrom_cons ?_ ?_
          · intro a_ w_ hk_
            have h104 : a_.eval (.tmp 104) = (.bool false) := hk_.got 26 104 _ (by kernel_rfl) rfl rfl
            have h110 : a_.eval (.tmp 110) = (.bool true) := hk_.got 32 110 _ (by kernel_rfl) rfl rfl
            have hg_ : a_.eval (.tmp 101) = .bool true := hk_.got 23 101 _ (by kernel_rfl) rfl rfl
            have hy_ := hk_.want 23 _ 101 true rfl rfl hg_
            have hx_ := hk_.ext
            clear hk_
            refine flow_want rfl hy_ ?_
            exact gives_pick rfl h104 ⟨Below.refl _ _, h110⟩
          refine allFrom_cons ?_ ?_
          · intro a_ w_ hk_
            have h101 : a_.eval (.tmp 101) = (.bool true) := hk_.got 23 101 _ (by kernel_rfl) rfl rfl
            have h111 : a_.eval (.tmp 111) = (.bool true) := hk_.got 33 111 _ (by kernel_rfl) rfl rfl
            have hx_ := hk_.ext
            clear hk_
            refine flow_plain rfl ?_
            exact gives_pick rfl h101 ⟨Below.refl _ _, h111⟩
          refine allFrom_cons ?_ ?_
          · intro a_ w_ hk_
            have h112 : a_.eval (.tmp 112) = (.bool true) := hk_.got 34 112 _ (by kernel_rfl) rfl rfl
            have hx_ := hk_.ext
            clear hk_
            refine flow_plain rfl ?_
            exact gives_assign rfl ⟨Below.refl _ _, h112⟩
          exact allFrom_nil
        intro f_ w_ hx_ hf_
        have h78 : f_ 78 = (.int .i64 E) := hf_ 0 78 _ (by decide) rfl rfl
        have h79 : f_ 79 = (.bool false) := hf_ 1 79 _ (by decide) rfl rfl
        have h80 : f_ 80 = (.int .i64 E) := hf_ 2 80 _ (by decide) rfl rfl
        have h81 : f_ 81 = (.bool false) := hf_ 3 81 _ (by decide) rfl rfl
        have h82 : f_ 82 = (.bool true) := hf_ 4 82 _ (by decide) rfl rfl
        have h83 : f_ 83 = (.bool true) := hf_ 5 83 _ (by decide) rfl rfl
        have h84 : f_ 84 = (.int .i64 E) := hf_ 6 84 _ (by decide) rfl rfl
        have h85 : f_ 85 = (.bool false) := hf_ 7 85 _ (by decide) rfl rfl
        have h86 : f_ 86 = (.bool false) := hf_ 8 86 _ (by decide) rfl rfl
        have h87 : f_ 87 = (.int .i64 E) := hf_ 9 87 _ (by decide) rfl rfl
        have h88 : f_ 88 = (.int .i64 E) := hf_ 10 88 _ (by decide) rfl rfl
        have h89 : f_ 89 = (.bool true) := hf_ 11 89 _ (by decide) rfl rfl
        have h90 : f_ 90 = (.bool true) := hf_ 12 90 _ (by decide) rfl rfl
        have h91 : f_ 91 = (.bool true) := hf_ 13 91 _ (by decide) rfl rfl
        have h92 : f_ 92 = (.bool true) := hf_ 14 92 _ (by decide) rfl rfl
        have h93 : f_ 93 = (.int .i64 0) := hf_ 15 93 _ (by decide) rfl rfl
        have h94 : f_ 94 = (.bool true) := hf_ 16 94 _ (by decide) rfl rfl
        have h95 : f_ 95 = (.bool true) := hf_ 17 95 _ (by decide) rfl rfl
        have h99 : f_ 99 = (.bool true) := hf_ 21 99 _ (by decide) rfl rfl
        have h100 : f_ 100 = (.bool true) := hf_ 22 100 _ (by decide) rfl rfl
        have h101 : f_ 101 = (.bool true) := hf_ 23 101 _ (by decide) rfl rfl
        have h102 : f_ 102 = (.int .i64 0) := hf_ 24 102 _ (by decide) rfl rfl
        have h103 : f_ 103 = (.bool false) := hf_ 25 103 _ (by decide) rfl rfl
        have h104 : f_ 104 = (.bool false) := hf_ 26 104 _ (by decide) rfl rfl
        have h105 : f_ 105 = (.int .i64 20) := hf_ 27 105 _ (by decide) rfl rfl
        have h106 : f_ 106 = (.bool false) := hf_ 28 106 _ (by decide) rfl rfl
        have h107 : f_ 107 = (.agg (X.map cb).toArray) := hf_ 29 107 _ (by decide) rfl rfl
        have h108 : f_ 108 = (.agg (root.map cb).toArray) := hf_ 30 108 _ (by decide) rfl rfl
        have h109 : f_ 109 = (.bool false) := hf_ 31 109 _ (by decide) rfl rfl
        have h110 : f_ 110 = (.bool true) := hf_ 32 110 _ (by decide) rfl rfl
        have h111 : f_ 111 = (.bool true) := hf_ 33 111 _ (by decide) rfl rfl
        have h112 : f_ 112 = (.bool true) := hf_ 34 112 _ (by decide) rfl rfl
        have h12 : f_ 12 = (.bool true) := hf_ 35 12 _ (by decide) rfl rfl
        simp only [mix, h78, h79, h80, h81, h82, h83, h84, h85, h86, h87, h88, h89, h90, h91, h92, h93, h94, h95, h99, h100, h101, h102, h103, h104, h105, h106, h107, h108, h109, h110, h111, h112, h12]
        clear h78 h79 h80 h81 h82 h83 h84 h85 h86 h87 h88 h89 h90 h91 h92 h93 h94 h95 h99 h100 h101 h102 h103 h104 h105 h106 h107 h108 h109 h110 h111 h112 h12
        clear hf_
        have hbf := bx_trans hb014 hx_
        clear hx_
        go_wp2_with fail
        go_ret
        exact ⟨rfl, hbf⟩
    · obtain rfl : G = J := by rw [HJ.out, if_neg hG]
      have hG1 : (G == 0) = false := by simpa using hG
      have hG2 : (G != 0) = true := by simpa using hG
      clear hG
      refine wp_region_lit ?_
      refine wp_flowSE [0, 1, 3, 7, 15, 31, 63, 127, 255, 511, 1023, 2047, 4095, 8191, 16383, 32767, 65535, 131071, 262143, 524287, 1048575, 2097151, 4194303, 8388607, 16777215, 33554431, 67108863, 134217727, 268435455, 536870911, 1073741823, 2147483647, 4294967295, 8589934591, 17179869183, 34359738367] 36 [false, false, false, false, false, false, false, false, false, false, false, false, true, false, false, false, false, false, false, false, false, false, false, false, false, false, false, false, false, false, false, false, false, false, false, false, false, false, false, false, false, false, false, false, false, false, false, false, false, false, false, false, false, false, false, false, false, false, false, false, false, false, false, false, false, false, false, false, false, false, false, false, false, false, false, false, false, false, true, true, true, true, true, true, true, true, true, true, true, true, true, true, true, true, true, true, true, true, true, true, true, true, true, true, true, true, true, true, true, true, true, true, true] (by kernel_rfl) (by kernel_rfl) (by kernel_rfl) [FP.eq (.int .i64 E), FP.eq (.bool false), FP.eq (.int .i64 E), FP.eq (.bool false), FP.eq (.bool true), FP.eq (.bool true), FP.eq (.int .i64 E), FP.eq (.bool false), FP.eq (.bool false), FP.eq (.int .i64 E), FP.eq (.int .i64 E), FP.eq (.bool true), FP.eq (.bool true), FP.eq (.bool true), FP.eq (.bool true), FP.eq (.int .i64 G), FP.eq (.bool false), FP.eq (.bool false), FP.eq (.int .i64 G), FP.eq (.int .i64 G), FP.eq (.bool true), FP.eq (.bool true), FP.eq (.bool true), FP.eq (.bool true), FP.eq (.int .i64 G), FP.eq (.bool true), FP.eq (.bool true), FP.any, FP.any, FP.any, FP.any, FP.any, FP.any, FP.eq (.bool true), FP.eq (.bool true), FP.eq (.bool true)] ?_ ?_
      · refine allFrom_cons ?_ ?_
        · intro a_ w_ hk_
          have h17 : a_.eval (.tmp 17) = .int .i64 E := hk_.old 17 (by kernel_rfl)
          have hx_ := hk_.ext
          clear hk_
          refine flow_plain rfl ?_
          exact gives_move rfl ⟨Below.refl _ _, h17⟩
        refine allFrom_cons ?_ ?_
        · intro a_ w_ hk_
          have h78 : a_.eval (.tmp 78) = (.int .i64 E) := hk_.got 0 78 _ (by kernel_rfl) rfl rfl
          have hx_ := hk_.ext
          clear hk_
          refine flow_plain rfl ?_
          unfold gives
          have hc_ : ∀ v, a_.eval (.const v) = v := fun _ => rfl
          have hn_ : ∀ f, a_.eval (.func f) = .func (.func f) #[] #[] := fun _ => rfl
          generalize a_.eval = ρ_ at *
          go_simp
          exact ⟨Below.refl _ _, rfl⟩
        refine allFrom_cons ?_ ?_
        · intro a_ w_ hk_
          have h18 : a_.eval (.tmp 18) = .int .i64 E := hk_.old 18 (by kernel_rfl)
          have hx_ := hk_.ext
          clear hk_
          refine flow_plain rfl ?_
          exact gives_move rfl ⟨Below.refl _ _, h18⟩
        refine allFrom_cons ?_ ?_
        · intro a_ w_ hk_
          have h80 : a_.eval (.tmp 80) = (.int .i64 E) := hk_.got 2 80 _ (by kernel_rfl) rfl rfl
          have hx_ := hk_.ext
          clear hk_
          refine flow_plain rfl ?_
          unfold gives
          have hc_ : ∀ v, a_.eval (.const v) = v := fun _ => rfl
          have hn_ : ∀ f, a_.eval (.func f) = .func (.func f) #[] #[] := fun _ => rfl
          generalize a_.eval = ρ_ at *
          go_simp
          exact ⟨Below.refl _ _, rfl⟩
        refine allFrom_cons ?_ ?_
        · intro a_ w_ hk_
          have h79 : a_.eval (.tmp 79) = (.bool false) := hk_.got 1 79 _ (by kernel_rfl) rfl rfl
          have h81 : a_.eval (.tmp 81) = (.bool false) := hk_.got 3 81 _ (by kernel_rfl) rfl rfl
          have hx_ := hk_.ext
          clear hk_
          refine flow_plain rfl ?_
          unfold gives
          have hc_ : ∀ v, a_.eval (.const v) = v := fun _ => rfl
          have hn_ : ∀ f, a_.eval (.func f) = .func (.func f) #[] #[] := fun _ => rfl
          generalize a_.eval = ρ_ at *
          go_simp
          exact ⟨Below.refl _ _, rfl⟩
        refine allFrom_cons ?_ ?_
        · intro a_ w_ hk_
          have h82 : a_.eval (.tmp 82) = (.bool true) := hk_.got 4 82 _ (by kernel_rfl) rfl rfl
          have hx_ := hk_.ext
          clear hk_
          refine flow_plain rfl ?_
          exact gives_move rfl ⟨Below.refl _ _, h82⟩
        refine allFrom_cons ?_ ?_
        · intro a_ w_ hk_
          have h17 : a_.eval (.tmp 17) = .int .i64 E := hk_.old 17 (by kernel_rfl)
          have hg_ : a_.eval (.tmp 83) = .bool true := hk_.got 5 83 _ (by kernel_rfl) rfl rfl
          have hy_ := hk_.want 5 _ 83 true rfl rfl hg_
          have hx_ := hk_.ext
          clear hk_
          refine flow_want rfl hy_ ?_
          exact gives_move rfl ⟨Below.refl _ _, h17⟩
        refine allFrom_cons ?_ ?_
        · intro a_ w_ hk_
          have h84 : a_.eval (.tmp 84) = (.int .i64 E) := hk_.got 6 84 _ (by kernel_rfl) rfl rfl
          have hg_ : a_.eval (.tmp 83) = .bool true := hk_.got 5 83 _ (by kernel_rfl) rfl rfl
          have hy_ := hk_.want 5 _ 83 true rfl rfl hg_
          have hx_ := hk_.ext
          clear hk_
          refine flow_want rfl hy_ ?_
          unfold gives
          have hc_ : ∀ v, a_.eval (.const v) = v := fun _ => rfl
          have hn_ : ∀ f, a_.eval (.func f) = .func (.func f) #[] #[] := fun _ => rfl
          clear hy_ hg_
          generalize a_.eval = ρ_ at *
          go_simp
          exact ⟨Below.refl _ _, rfl⟩
        refine allFrom_cons ?_ ?_
        · intro a_ w_ hk_
          have h85 : a_.eval (.tmp 85) = (.bool false) := hk_.got 7 85 _ (by kernel_rfl) rfl rfl
          have hg_ : a_.eval (.tmp 83) = .bool true := hk_.got 5 83 _ (by kernel_rfl) rfl rfl
          have hy_ := hk_.want 5 _ 83 true rfl rfl hg_
          have hx_ := hk_.ext
          clear hk_
          refine flow_want rfl hy_ ?_
          exact gives_move rfl ⟨Below.refl _ _, h85⟩
        refine allFrom_cons ?_ ?_
        · intro a_ w_ hk_
          have h17 : a_.eval (.tmp 17) = .int .i64 E := hk_.old 17 (by kernel_rfl)
          have hg_ : a_.eval (.tmp 86) = .bool false := hk_.got 8 86 _ (by kernel_rfl) rfl rfl
          have hy_ := hk_.want 8 _ 86 false rfl rfl hg_
          have hx_ := hk_.ext
          clear hk_
          refine flow_want rfl hy_ ?_
          exact gives_move rfl ⟨Below.refl _ _, h17⟩
        refine allFrom_cons ?_ ?_
        · intro a_ w_ hk_
          have h18 : a_.eval (.tmp 18) = .int .i64 E := hk_.old 18 (by kernel_rfl)
          have hg_ : a_.eval (.tmp 86) = .bool false := hk_.got 8 86 _ (by kernel_rfl) rfl rfl
          have hy_ := hk_.want 8 _ 86 false rfl rfl hg_
          have hx_ := hk_.ext
          clear hk_
          refine flow_want rfl hy_ ?_
          exact gives_move rfl ⟨Below.refl _ _, h18⟩
        refine allFrom_cons ?_ ?_
        · intro a_ w_ hk_
          have h87 : a_.eval (.tmp 87) = (.int .i64 E) := hk_.got 9 87 _ (by kernel_rfl) rfl rfl
          have h88 : a_.eval (.tmp 88) = (.int .i64 E) := hk_.got 10 88 _ (by kernel_rfl) rfl rfl
          have hg_ : a_.eval (.tmp 86) = .bool false := hk_.got 8 86 _ (by kernel_rfl) rfl rfl
          have hy_ := hk_.want 8 _ 86 false rfl rfl hg_
          have hx_ := hk_.ext
          clear hk_
          refine flow_want rfl hy_ ?_
          unfold gives
          have hc_ : ∀ v, a_.eval (.const v) = v := fun _ => rfl
          have hn_ : ∀ f, a_.eval (.func f) = .func (.func f) #[] #[] := fun _ => rfl
          clear hy_ hg_
          generalize a_.eval = ρ_ at *
          go_simp
          exact ⟨Below.refl _ _, rfl⟩
        refine allFrom_cons ?_ ?_
        · intro a_ w_ hk_
          have h86 : a_.eval (.tmp 86) = (.bool false) := hk_.got 8 86 _ (by kernel_rfl) rfl rfl
          have h89 : a_.eval (.tmp 89) = (.bool true) := hk_.got 11 89 _ (by kernel_rfl) rfl rfl
          have hg_ : a_.eval (.tmp 83) = .bool true := hk_.got 5 83 _ (by kernel_rfl) rfl rfl
          have hy_ := hk_.want 5 _ 83 true rfl rfl hg_
          have hx_ := hk_.ext
          clear hk_
          refine flow_want rfl hy_ ?_
          exact gives_pick rfl h86 ⟨Below.refl _ _, h89⟩
        refine allFrom_cons ?_ ?_
        · intro a_ w_ hk_
          have h83 : a_.eval (.tmp 83) = (.bool true) := hk_.got 5 83 _ (by kernel_rfl) rfl rfl
          have h90 : a_.eval (.tmp 90) = (.bool true) := hk_.got 12 90 _ (by kernel_rfl) rfl rfl
          have hx_ := hk_.ext
          clear hk_
          refine flow_plain rfl ?_
          exact gives_pick rfl h83 ⟨Below.refl _ _, h90⟩
        refine allFrom_cons ?_ ?_
        · intro a_ w_ hk_
          have h91 : a_.eval (.tmp 91) = (.bool true) := hk_.got 13 91 _ (by kernel_rfl) rfl rfl
          have hx_ := hk_.ext
          clear hk_
          refine flow_plain rfl ?_
          exact gives_move rfl ⟨Below.refl _ _, h91⟩
        refine allFrom_cons ?_ ?_
        · intro a_ w_ hk_
          have h22 : a_.eval (.tmp 22) = .int .i64 G := hk_.old 22 (by kernel_rfl)
          have hg_ : a_.eval (.tmp 92) = .bool true := hk_.got 14 92 _ (by kernel_rfl) rfl rfl
          have hy_ := hk_.want 14 _ 92 true rfl rfl hg_
          have hx_ := hk_.ext
          clear hk_
          refine flow_want rfl hy_ ?_
          exact gives_move rfl ⟨Below.refl _ _, h22⟩
        refine allFrom_cons ?_ ?_
        · intro a_ w_ hk_
          have h93 : a_.eval (.tmp 93) = (.int .i64 G) := hk_.got 15 93 _ (by kernel_rfl) rfl rfl
          have hg_ : a_.eval (.tmp 92) = .bool true := hk_.got 14 92 _ (by kernel_rfl) rfl rfl
          have hy_ := hk_.want 14 _ 92 true rfl rfl hg_
          have hx_ := hk_.ext
          clear hk_
          refine flow_want rfl hy_ ?_
          unfold gives
          have hc_ : ∀ v, a_.eval (.const v) = v := fun _ => rfl
          have hn_ : ∀ f, a_.eval (.func f) = .func (.func f) #[] #[] := fun _ => rfl
          clear hy_ hg_
          generalize a_.eval = ρ_ at *
          go_simp
          exact ⟨Below.refl _ _, rfl⟩
        refine allFrom_cons ?_ ?_
        · intro a_ w_ hk_
          have h94 : a_.eval (.tmp 94) = (.bool false) := hk_.got 16 94 _ (by kernel_rfl) rfl rfl
          have hg_ : a_.eval (.tmp 92) = .bool true := hk_.got 14 92 _ (by kernel_rfl) rfl rfl
          have hy_ := hk_.want 14 _ 92 true rfl rfl hg_
          have hx_ := hk_.ext
          clear hk_
          refine flow_want rfl hy_ ?_
          exact gives_move rfl ⟨Below.refl _ _, h94⟩
        refine allFrom_cons ?_ ?_
        · intro a_ w_ hk_
          have h23 : a_.eval (.tmp 23) = .int .i64 G := hk_.old 23 (by kernel_rfl)
          have hg_ : a_.eval (.tmp 95) = .bool false := hk_.got 17 95 _ (by kernel_rfl) rfl rfl
          have hy_ := hk_.want 17 _ 95 false rfl rfl hg_
          have hx_ := hk_.ext
          clear hk_
          refine flow_want rfl hy_ ?_
          exact gives_move rfl ⟨Below.refl _ _, h23⟩
        refine allFrom_cons ?_ ?_
        · intro a_ w_ hk_
          have h22 : a_.eval (.tmp 22) = .int .i64 G := hk_.old 22 (by kernel_rfl)
          have hg_ : a_.eval (.tmp 95) = .bool false := hk_.got 17 95 _ (by kernel_rfl) rfl rfl
          have hy_ := hk_.want 17 _ 95 false rfl rfl hg_
          have hx_ := hk_.ext
          clear hk_
          refine flow_want rfl hy_ ?_
          exact gives_move rfl ⟨Below.refl _ _, h22⟩
        refine allFrom_cons ?_ ?_
        · intro a_ w_ hk_
          have h96 : a_.eval (.tmp 96) = (.int .i64 G) := hk_.got 18 96 _ (by kernel_rfl) rfl rfl
          have h97 : a_.eval (.tmp 97) = (.int .i64 G) := hk_.got 19 97 _ (by kernel_rfl) rfl rfl
          have hg_ : a_.eval (.tmp 95) = .bool false := hk_.got 17 95 _ (by kernel_rfl) rfl rfl
          have hy_ := hk_.want 17 _ 95 false rfl rfl hg_
          have hx_ := hk_.ext
          clear hk_
          refine flow_want rfl hy_ ?_
          unfold gives
          have hc_ : ∀ v, a_.eval (.const v) = v := fun _ => rfl
          have hn_ : ∀ f, a_.eval (.func f) = .func (.func f) #[] #[] := fun _ => rfl
          clear hy_ hg_
          generalize a_.eval = ρ_ at *
          go_simp
          exact ⟨Below.refl _ _, rfl⟩
        refine allFrom_cons ?_ ?_
        · intro a_ w_ hk_
          have h95 : a_.eval (.tmp 95) = (.bool false) := hk_.got 17 95 _ (by kernel_rfl) rfl rfl
          have h98 : a_.eval (.tmp 98) = (.bool true) := hk_.got 20 98 _ (by kernel_rfl) rfl rfl
          have hg_ : a_.eval (.tmp 92) = .bool true := hk_.got 14 92 _ (by kernel_rfl) rfl rfl
          have hy_ := hk_.want 14 _ 92 true rfl rfl hg_
          have hx_ := hk_.ext
          clear hk_
          refine flow_want rfl hy_ ?_
          exact gives_pick rfl h95 ⟨Below.refl _ _, h98⟩
        refine allFrom_cons ?_ ?_
        · intro a_ w_ hk_
          have h92 : a_.eval (.tmp 92) = (.bool true) := hk_.got 14 92 _ (by kernel_rfl) rfl rfl
          have h99 : a_.eval (.tmp 99) = (.bool true) := hk_.got 21 99 _ (by kernel_rfl) rfl rfl
          have hx_ := hk_.ext
          clear hk_
          refine flow_plain rfl ?_
          exact gives_pick rfl h92 ⟨Below.refl _ _, h99⟩
        refine allFrom_cons ?_ ?_
        · intro a_ w_ hk_
          have h100 : a_.eval (.tmp 100) = (.bool true) := hk_.got 22 100 _ (by kernel_rfl) rfl rfl
          have hx_ := hk_.ext
          clear hk_
          refine flow_plain rfl ?_
          exact gives_move rfl ⟨Below.refl _ _, h100⟩
        refine allFrom_cons ?_ ?_
        · intro a_ w_ hk_
          have h22 : a_.eval (.tmp 22) = .int .i64 G := hk_.old 22 (by kernel_rfl)
          have hg_ : a_.eval (.tmp 101) = .bool true := hk_.got 23 101 _ (by kernel_rfl) rfl rfl
          have hy_ := hk_.want 23 _ 101 true rfl rfl hg_
          have hx_ := hk_.ext
          clear hk_
          refine flow_want rfl hy_ ?_
          exact gives_move rfl ⟨Below.refl _ _, h22⟩
        refine allFrom_cons ?_ ?_
        · intro a_ w_ hk_
          have h102 : a_.eval (.tmp 102) = (.int .i64 G) := hk_.got 24 102 _ (by kernel_rfl) rfl rfl
          have hg_ : a_.eval (.tmp 101) = .bool true := hk_.got 23 101 _ (by kernel_rfl) rfl rfl
          have hy_ := hk_.want 23 _ 101 true rfl rfl hg_
          have hx_ := hk_.ext
          clear hk_
          refine flow_want rfl hy_ ?_
          unfold gives
          have hc_ : ∀ v, a_.eval (.const v) = v := fun _ => rfl
          have hn_ : ∀ f, a_.eval (.func f) = .func (.func f) #[] #[] := fun _ => rfl
          clear hy_ hg_
          generalize a_.eval = ρ_ at *
          go_simp
          exact ⟨Below.refl _ _, rfl⟩
        refine allFrom_cons ?_ ?_
        · intro a_ w_ hk_
          have h103 : a_.eval (.tmp 103) = (.bool true) := hk_.got 25 103 _ (by kernel_rfl) rfl rfl
          have hg_ : a_.eval (.tmp 101) = .bool true := hk_.got 23 101 _ (by kernel_rfl) rfl rfl
          have hy_ := hk_.want 23 _ 101 true rfl rfl hg_
          have hx_ := hk_.ext
          clear hk_
          refine flow_want rfl hy_ ?_
          exact gives_move rfl ⟨Below.refl _ _, h103⟩
        refine allFrom_cons ?_ ?_
        · intro a_ w_ hk_
          have h23 : a_.eval (.tmp 23) = .int .i64 G := hk_.old 23 (by kernel_rfl)
          have hg_ : a_.eval (.tmp 104) = .bool true := hk_.got 26 104 _ (by kernel_rfl) rfl rfl
          have hy_ := hk_.want 26 _ 104 true rfl rfl hg_
          have hx_ := hk_.ext
          clear hk_
          exact flow_skip rfl hy_ (by decide) trivial
        refine allFrom_cons ?_ ?_
        · intro a_ w_ hk_
          have hg_ : a_.eval (.tmp 104) = .bool true := hk_.got 26 104 _ (by kernel_rfl) rfl rfl
          have hy_ := hk_.want 26 _ 104 true rfl rfl hg_
          have hx_ := hk_.ext
          clear hk_
          exact flow_skip rfl hy_ (by decide) trivial
        refine allFrom_cons ?_ ?_
        · intro a_ w_ hk_
          have h20 : a_.eval (.tmp 20) = .pointer (some ⟨g20, 0, none⟩) := hk_.old 20 (by kernel_rfl)
          have hg_ : a_.eval (.tmp 104) = .bool true := hk_.got 26 104 _ (by kernel_rfl) rfl rfl
          have hy_ := hk_.want 26 _ 104 true rfl rfl hg_
          have hx_ := hk_.ext
          clear hk_
          exact flow_skip rfl hy_ (by decide) trivial
        refine allFrom_cons ?_ ?_
        · intro a_ w_ hk_
          have h11 : a_.eval (.tmp 11) = .pointer (some ⟨w.heap.size, 0, none⟩) := hk_.old 11 (by kernel_rfl)
          have hg_ : a_.eval (.tmp 104) = .bool true := hk_.got 26 104 _ (by kernel_rfl) rfl rfl
          have hy_ := hk_.want 26 _ 104 true rfl rfl hg_
          have hx_ := hk_.ext
          clear hk_
          exact flow_skip rfl hy_ (by decide) trivial
        refine allFrom_cons ?_ ?_
        · intro a_ w_ hk_
          have hg_ : a_.eval (.tmp 104) = .bool true := hk_.got 26 104 _ (by kernel_rfl) rfl rfl
          have hy_ := hk_.want 26 _ 104 true rfl rfl hg_
          have hx_ := hk_.ext
          clear hk_
          exact flow_skip rfl hy_ (by decide) trivial
        refine allFrom_cons ?_ ?_
        · intro a_ w_ hk_
          have hg_ : a_.eval (.tmp 104) = .bool true := hk_.got 26 104 _ (by kernel_rfl) rfl rfl
          have hy_ := hk_.want 26 _ 104 true rfl rfl hg_
          have hx_ := hk_.ext
          clear hk_
          exact flow_skip rfl hy_ (by decide) trivial
        refine allFrom_cons ?_ ?_
        · intro a_ w_ hk_
          have h104 : a_.eval (.tmp 104) = (.bool true) := hk_.got 26 104 _ (by kernel_rfl) rfl rfl
          have hg_ : a_.eval (.tmp 101) = .bool true := hk_.got 23 101 _ (by kernel_rfl) rfl rfl
          have hy_ := hk_.want 23 _ 101 true rfl rfl hg_
          have hx_ := hk_.ext
          clear hk_
          refine flow_want rfl hy_ ?_
          exact gives_pick rfl h104 ⟨Below.refl _ _, rfl⟩
        refine allFrom_cons ?_ ?_
        · intro a_ w_ hk_
          have h101 : a_.eval (.tmp 101) = (.bool true) := hk_.got 23 101 _ (by kernel_rfl) rfl rfl
          have h111 : a_.eval (.tmp 111) = (.bool true) := hk_.got 33 111 _ (by kernel_rfl) rfl rfl
          have hx_ := hk_.ext
          clear hk_
          refine flow_plain rfl ?_
          exact gives_pick rfl h101 ⟨Below.refl _ _, h111⟩
        refine allFrom_cons ?_ ?_
        · intro a_ w_ hk_
          have h112 : a_.eval (.tmp 112) = (.bool true) := hk_.got 34 112 _ (by kernel_rfl) rfl rfl
          have hx_ := hk_.ext
          clear hk_
          refine flow_plain rfl ?_
          exact gives_assign rfl ⟨Below.refl _ _, h112⟩
        exact allFrom_nil
      intro f_ w_ hx_ hf_
      have h78 : f_ 78 = (.int .i64 E) := hf_ 0 78 _ (by decide) rfl rfl
      have h79 : f_ 79 = (.bool false) := hf_ 1 79 _ (by decide) rfl rfl
      have h80 : f_ 80 = (.int .i64 E) := hf_ 2 80 _ (by decide) rfl rfl
      have h81 : f_ 81 = (.bool false) := hf_ 3 81 _ (by decide) rfl rfl
      have h82 : f_ 82 = (.bool true) := hf_ 4 82 _ (by decide) rfl rfl
      have h83 : f_ 83 = (.bool true) := hf_ 5 83 _ (by decide) rfl rfl
      have h84 : f_ 84 = (.int .i64 E) := hf_ 6 84 _ (by decide) rfl rfl
      have h85 : f_ 85 = (.bool false) := hf_ 7 85 _ (by decide) rfl rfl
      have h86 : f_ 86 = (.bool false) := hf_ 8 86 _ (by decide) rfl rfl
      have h87 : f_ 87 = (.int .i64 E) := hf_ 9 87 _ (by decide) rfl rfl
      have h88 : f_ 88 = (.int .i64 E) := hf_ 10 88 _ (by decide) rfl rfl
      have h89 : f_ 89 = (.bool true) := hf_ 11 89 _ (by decide) rfl rfl
      have h90 : f_ 90 = (.bool true) := hf_ 12 90 _ (by decide) rfl rfl
      have h91 : f_ 91 = (.bool true) := hf_ 13 91 _ (by decide) rfl rfl
      have h92 : f_ 92 = (.bool true) := hf_ 14 92 _ (by decide) rfl rfl
      have h93 : f_ 93 = (.int .i64 G) := hf_ 15 93 _ (by decide) rfl rfl
      have h94 : f_ 94 = (.bool false) := hf_ 16 94 _ (by decide) rfl rfl
      have h95 : f_ 95 = (.bool false) := hf_ 17 95 _ (by decide) rfl rfl
      have h96 : f_ 96 = (.int .i64 G) := hf_ 18 96 _ (by decide) rfl rfl
      have h97 : f_ 97 = (.int .i64 G) := hf_ 19 97 _ (by decide) rfl rfl
      have h98 : f_ 98 = (.bool true) := hf_ 20 98 _ (by decide) rfl rfl
      have h99 : f_ 99 = (.bool true) := hf_ 21 99 _ (by decide) rfl rfl
      have h100 : f_ 100 = (.bool true) := hf_ 22 100 _ (by decide) rfl rfl
      have h101 : f_ 101 = (.bool true) := hf_ 23 101 _ (by decide) rfl rfl
      have h102 : f_ 102 = (.int .i64 G) := hf_ 24 102 _ (by decide) rfl rfl
      have h103 : f_ 103 = (.bool true) := hf_ 25 103 _ (by decide) rfl rfl
      have h104 : f_ 104 = (.bool true) := hf_ 26 104 _ (by decide) rfl rfl
      have h111 : f_ 111 = (.bool true) := hf_ 33 111 _ (by decide) rfl rfl
      have h112 : f_ 112 = (.bool true) := hf_ 34 112 _ (by decide) rfl rfl
      have h12 : f_ 12 = (.bool true) := hf_ 35 12 _ (by decide) rfl rfl
      simp only [mix, h78, h79, h80, h81, h82, h83, h84, h85, h86, h87, h88, h89, h90, h91, h92, h93, h94, h95, h96, h97, h98, h99, h100, h101, h102, h103, h104, h111, h112, h12]
      clear h78 h79 h80 h81 h82 h83 h84 h85 h86 h87 h88 h89 h90 h91 h92 h93 h94 h95 h96 h97 h98 h99 h100 h101 h102 h103 h104 h111 h112 h12
      clear hf_
      have hbf := bx_trans hb014 hx_
      clear hx_
      go_wp2_with fail
      go_ret
      exact ⟨rfl, hbf⟩
end Go.Proofs.YtgaefejblmnklaaDoor
