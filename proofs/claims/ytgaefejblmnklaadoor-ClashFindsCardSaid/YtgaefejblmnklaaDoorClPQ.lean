
/- Trees: Verify walked. Clashes: what is shown is right, plain. -/
import Derived.Test.YtgaefejblmnklaaDoorClO
namespace Go.Proofs.YtgaefejblmnklaaDoor
section
open Go.RowKit
set_option linter.unusedVariables false
/-- The walk up goes a path's steps, from below. -/
theorem flg_runs : ∀ (n i : Nat), i < n → Runs (flg n i).reverse i (n - 1) := by
  intro n
  induction n using Nat.strongRecOn with
  | ind n ih =>
    intro i hi
    by_cases hn : n ≤ 1
    · rw [flg_no i hn]
      exact ⟨by omega, by omega⟩
    · obtain ⟨K, hK, h1, h2⟩ := split_pow (n := n) (by omega)
      have hp := pow_one_le K
      have hpp : 2 ^ (K + 1) = 2 * 2 ^ K := by rw [Nat.pow_succ, Nat.mul_comm]
      by_cases hs : i < splitN n
      · rw [flg_true (by omega) hs, List.reverse_cons]
        rw [hK] at hs ⊢
        exact runsA _ _ K _ (ih (2 ^ K) (by omega) i hs) hs (by omega) (by omega)
      · rw [flg_false (by omega) hs, List.reverse_cons]
        rw [hK] at hs ⊢
        have := runsB _ _ _ K (ih (n - 2 ^ K) (by omega) (i - 2 ^ K) (by omega)) (by omega) (by omega)
        rwa [show i - 2 ^ K + 2 ^ K = i by omega, show n - 2 ^ K - 1 + 2 ^ K = n - 1 by omega] at this
/-- What is left to be verified. -/
def finV (root : List UInt8) : List UInt8 → List Bool → List (List UInt8) → Int
  | h, [], [] => if h = root then 0 else 20
  | h, d :: ds, p :: ps => finV root (if d then nodeL h p else nodeL p h) ds ps
  | _, [], _ :: _ => 20
  | _, _ :: _, [] => 20
def verT (size i : Nat) (root en : List UInt8) (path : List (List UInt8)) : Int := if size ≤ i then 15 else finV root (shaL (0 :: en)) (flg size i).reverse path
theorem Verify_out (w : World) (root : List UInt8) (size i : Nat) (hi : size ≤ i) (va vp : Value) : Calls Tryd.prog 14 #[.agg (root.map cb).toArray, .int .u64 (size : Int), .int .u64 (i : Int), va, vp] w fun e w' => e = .returned (.int .i64 15) ∧ Below w.heap.size w w' := by
  have hb : Below w.heap.size w (w.alloc (.cells (root.map cb).toArray tH)) := bx_alloc (Below.refl _ _) _
  have hii : (size : Int) ≤ (i : Int) := by omega
  go_enter Tryd.func14, Tryd.ntmps14
  go_wp2
  go_ret
  exact ⟨rfl, hb⟩
set_option maxRecDepth 100000 in
set_option maxHeartbeats 4000000 in
theorem VerifyT_in (w : World) (hL : Laid w) {root : List UInt8} (hro : root.length = 32) {size i : Nat} (hsz : size < 18446744073709551616) (hi : i < size) {Ae : Option Addr} {ce : Nat} {en : List UInt8} (hre : Rd w w.heap.size Ae (en.map cb)) (hce : en.length ≤ ce) (hle : en.length ≤ 100000000)
    {Ap : Option Addr} {c p : Nat} {path : List (List UInt8)} (hpl : path.length = p) (h32 : ∀ x ∈ path, x.length = 32) (hrp : Rd w w.heap.size Ap (path.flatten.map cb)) (hp : p ≤ 1000) :
    Calls Tryd.prog 14 #[.agg (root.map cb).toArray, .int .u64 (size : Int), .int .u64 (i : Int), .slice Ae en.length ce, .slice Ap p c] w fun e w' => e = .returned (.int .i64 (finV root (shaL (0 :: en)) (flg size i).reverse path)) ∧ Below w.heap.size w w' := by
  have hk0 : Blk (w.alloc (.cells (root.map cb).toArray tH)) w.heap.size tH (root.map cb).toArray := Blk.new w _ _
  have hb0 : Below w.heap.size w (w.alloc (.cells (root.map cb).toArray tH)) := bx_alloc (Below.refl _ _) _
  have hi2 : ¬ (size : Int) ≤ (i : Int) := by omega
  have hpr := u64_pred (m := size) (by omega) hsz
  have hruns := flg_runs size i hi
  obtain ⟨D, hD⟩ : ∃ D, D = (flg size i).reverse := ⟨_, rfl⟩
  rw [← hD] at hruns ⊢
  obtain ⟨V, hV⟩ : ∃ V, V = finV root (shaL (0 :: en)) D path := ⟨_, rfl⟩
  rw [← hV]
  obtain ⟨h0, hh0⟩ : ∃ h0, h0 = shaL (0 :: en) := ⟨_, rfl⟩
  have hl0 : h0.length = 32 := by rw [hh0]; exact shaL_length _
  have HLF := hid (fun (W : World) (hb : Below w.heap.size w W) => Leaf_any W (hL.below hb) (c := ce) ((hre.below hb).more hb.size) (Nat.le_refl _) hce (by omega))
  rw [← hh0] at hV HLF
  have HV := hid hV
  have HRU := hid hruns
  have HL := hid hL
  have HRP := hid hrp
  have HPL := hid hpl
  have H32 := hid h32
  clear hD hV hh0 hruns hL hrp hpl h32 hre
  go_enter Tryd.func14, Tryd.ntmps14
  go_wp2_with fail
  refine (HLF.out _ hb0).mono ?_
  rintro e w2 ⟨rfl, hb2⟩
  have hb02 := bx_trans hb0 hb2
  have hk2 := hk0.below hb2 hk0.lt
  go_wp2_with (first
    | ((with_reducible refine wpAtC ?_); refine wpList_alloc (w := w2) rfl _ rfl zeroH ?_; intro g13 w3 hg13 hg13' hz13 hb3; simp only [Act.put, List.setIfInBounds_toArray, List.set_cons_succ, List.set_cons_zero])
    | ((with_reducible refine wpAtC ?_); refine wpList_store_agg rfl _ _ _ rfl _ _ rfl (h0.map cb).toArray rfl (aggHS hl0) hz13 (szH hl0) (one_cbA _) ?_; intro w4 hp4; simp only [Act.put]; rw [splH hl0] at hp4))
  have hb24 := bx_put hb3 hp4 hg13
  have hb04 := bx_trans hb02 hb24
  have hk4 := hk2.below hb24 hk2.lt
  have hx4 := hp4.blk
  have hg13w : w.heap.size ≤ g13 := Nat.le_trans hb02.size hg13
  have hkl : w.heap.size < w2.heap.size := hk2.lt
  obtain ⟨g5, hg5⟩ : ∃ g5, g5 = w.heap.size := ⟨_, rfl⟩
  have hg513 : g5 < g13 := by omega
  rw [← hg5] at hk4 ⊢
  clear hk0 hb0 hb2 hb02 hk2 hb3 hp4 hz13 hb24 hkl hg5
  go_loopw [11, 12, 15, 26] (fun v11 v12 _ v26 wr => ∃ (j : Nat) (h : List UInt8) (a l : Nat), j ≤ p ∧ v11 = .int .u64 (a : Int) ∧ v12 = .int .u64 (l : Int) ∧ v26 = .int .i64 (j : Int) ∧ Blk wr g13 tH (h.map cb).toArray ∧ h.length = 32 ∧ Hid (Runs (D.drop j) a l) ∧ a < 18446744073709551616 ∧ l < 18446744073709551616 ∧ Hid (V = finV root h (D.drop j) (path.drop j)) ∧ Blk wr g5 tH (root.map cb).toArray ∧ Below w.heap.size w wr) (fun _ _ _ v26 _ => p - (intOf v26).toNat)
  case atStart => exact ⟨0, h0, i, size - 1, Nat.zero_le _, rfl, rfl, rfl, hx4, hl0, by rw [List.drop_zero]; exact HRU, by omega, by omega, by rw [List.drop_zero, List.drop_zero]; exact HV, hk4, hb04⟩
  case round =>
    obtain ⟨j, h, a, l, hj, rfl, rfl, rfl, hx, hhl, HRN, ham, hlm, HVN, hk, hbr⟩ := hrel
    rename World => wr
    clear hx4 hk4 hb04 hl0 hpr
    have HXB := hid hx
    have HKB := hid hk
    clear hx hk
    by_cases hlt : j < p
    · have hjr : j < path.length := by rw [HPL.out]; exact hlt
      have hpd : path.drop j = path[j] :: path.drop (j + 1) := List.drop_eq_getElem_cons hjr
      have hpl2 := H32.out _ (List.getElem_mem hjr)
      obtain ⟨b, off, rfl, _, _⟩ := HRP.out.at_ (k := j) (by rw [List.length_map, hs_len H32.out, HPL.out]; omega)
      obtain ⟨hbB, hpw⟩ := rd_hash HRP.out H32.out j hjr
      have hpc := fun i v hv => (hbr.cell (p := ⟨b, off + j * 32 + i, none⟩) hbB).trans (hpw i v hv)
      have hV1 := HVN.out
      rw [hpd] at hV1
      generalize path[j] = q at *
      have HPC := hid hpc
      have HB := hid hbr
      have haq := aggHL hpl2
      clear hpw hpd hpc hbr hjr
      cases hdr : D.drop j with
      | nil =>
        have hr := HRN.out
        rw [hdr] at hr hV1
        obtain ⟨rfl, rfl⟩ := hr
        have HE : Hid (V = 20) := hid hV1
        clear hV1 hdr
        go_wp2_with (first
          | ((with_reducible refine wpAtC ?_); refine wpList_load_agg rfl _ _ rfl _ _ rfl (q.map cb) haq HPC.out ?_; simp only [Act.put, List.setIfInBounds_toArray, List.set_cons_succ, List.set_cons_zero])
          | ((with_reducible refine wpAtC ?_); refine wpList_alloc (w := wr) rfl _ rfl zeroH ?_; intro g15 w12 hg15 hg15' hz12 hb12; simp only [Act.put, List.setIfInBounds_toArray, List.set_cons_succ, List.set_cons_zero])
          | ((with_reducible refine wpAtC ?_); refine wpList_store_agg rfl _ _ _ rfl _ _ rfl (q.map cb).toArray rfl (aggHS hpl2) hz12 (szH hpl2) (one_cbA _) ?_; intro w13 hp13; simp only [Act.put]; rw [splH hpl2] at hp13; have hb13 := bx_put hb12 hp13 hg15))
        go_ret
        exact ⟨by rw [HE.out]; rfl, bx_trans HB.out hb13⟩
      | cons d ds =>
        have hr := HRN.out
        rw [hdr] at hr hV1
        obtain ⟨hl0, hst, hrn⟩ := hr
        have hds : D.drop (j + 1) = ds := by
          rw [← List.drop_drop, hdr]
          rfl
        have hlne : ((l : Int) == 0) = false := by simp; omega
        have hab := and1_u64 ham
        have HV1 : Hid (V = finV root (if d then nodeL h q else nodeL q h) ds (path.drop (j + 1))) := hid hV1
        have HDS := hid hds
        have haxh := aggHL hhl
        clear hV1 hdr hds
        by_cases hd : a % 2 = 1 ∨ a = l
        · have ha0 : 0 < a := by omega
          have hs1 : stp a l = (false, (evs a l).1 / 2, (evs a l).2 / 2) := by unfold stp; rw [if_pos hd]
          rw [hs1] at hst hrn
          obtain rfl : false = d := hst
          have HRN2 : Hid (Runs ds ((evs a l).1 / 2) ((evs a l).2 / 2)) := hid hrn
          clear hs1 hrn
          have hty : ((a % 2 : Nat) : Int) = 1 ∧ True ∨ ((a % 2 : Nat) : Int) = 0 ∧ ((a : Int) == (l : Int)) = true := by
            rcases Nat.mod_two_eq_zero_or_one a with h0 | h0
            · right
              refine ⟨by omega, ?_⟩
              rw [show a = l by omega]
              simp
            · left
              exact ⟨by omega, trivial⟩
          rcases hty with ⟨hm2, hal⟩ | ⟨hm2, hal⟩
          all_goals
            rw [hm2] at hab
            clear hm2 hd
            go_wp2_with (first
              | ((with_reducible refine wpAtC ?_); refine wpList_load_agg rfl _ _ rfl _ _ rfl (q.map cb) haq HPC.out ?_; simp only [Act.put, List.setIfInBounds_toArray, List.set_cons_succ, List.set_cons_zero])
              | ((with_reducible refine wpAtC ?_); refine wpList_alloc (w := wr) rfl _ rfl zeroH ?_; intro g15 w12 hg15 hg15' hz12 hb12; simp only [Act.put, List.setIfInBounds_toArray, List.set_cons_succ, List.set_cons_zero])
              | ((with_reducible refine wpAtC ?_); refine wpList_store_agg rfl _ _ _ rfl _ _ rfl (q.map cb).toArray rfl (aggHS hpl2) hz12 (szH hpl2) (one_cbA _) ?_; intro w13 hp13; simp only [Act.put]; rw [splH hpl2] at hp13; have hb13 := bx_put hb12 hp13 hg15; have hq13 := hp13.blk; have hx13 := HXB.out.below hb13 HXB.out.lt)
              | ((with_reducible refine wpAtC ?_); refine wpList_load_agg rfl _ _ rfl _ _ rfl (q.map cb) haq (blk_cells hq13) ?_; simp only [Act.put, List.setIfInBounds_toArray, List.set_cons_succ, List.set_cons_zero])
              | ((with_reducible refine wpAtC ?_); refine wpList_load_agg rfl _ _ rfl _ _ rfl (h.map cb) haxh (blk_cells hx13) ?_; simp only [Act.put, List.setIfInBounds_toArray, List.set_cons_succ, List.set_cons_zero]))
            have hb013 := bx_trans HB.out hb13
            have hk13 := HKB.out.below hb13 HKB.out.lt
            clear hq13 hz12 hp13 hb12
            refine (Node_any w13 (HL.out.below hb013) hpl2 hhl).mono ?_
            rintro e w14 ⟨rfl, hb14⟩
            have hnl : (nodeL q h).length = 32 := nodeL_len _ _
            rw [show shaL (1 :: (q ++ h)) = nodeL q h from rfl]
            generalize nodeL q h = N at *
            have hx14 := hx13.below hb14 hx13.lt
            have hk14 := HKB.out.below (bx_trans hb13 hb14) HKB.out.lt
            have hb014 := bx_trans hb013 hb14
            have hsz : 0 + (N.map cb).toArray.size ≤ (h.map cb).toArray.size := by simp [hnl, hhl]
            have hsp : spl (h.map cb).toArray 0 (N.map cb).toArray.toList = (N.map cb).toArray := spl_whole (by simp [hnl, hhl])
            clear hx13 hk13 hb14 hb013
            go_wp2_with ((with_reducible refine wpAtC ?_); refine wpList_store_agg rfl _ _ _ rfl _ _ rfl (N.map cb).toArray rfl (aggHS hnl) hx14 hsz (one_cbA _) ?_; intro w15 hp15; simp only [Act.put]; rw [hsp] at hp15)
            have hx15 := hp15.blk
            have hk15 := hp15.other hk14 (by omega)
            have hb015 := bx_put hb014 hp15 hg13w
            clear hx14 hk14 hb014 hsz hsp hp15
            clear hab hal
            go_loop [11, 12] (fun v10 v11 => ERel a l v10 v11) (fun v10 _ => (intOf v10).toNat)
            case atStart => exact ⟨a, l, rfl, rfl, ha0, Nat.le_refl _, Nat.le_refl _, rfl⟩
            case round =>
              obtain ⟨a1, l1, rfl, rfl, h1p, h1a, h1l, hev⟩ := hrel
              have HEV := hid hev
              clear hev
              have hab1 := and1_u64 (Nat.lt_of_le_of_lt h1a ham)
              rcases Nat.mod_two_eq_zero_or_one a1 with h0 | h0
              · have he := evs_yes (a := a1) (l := l1) ⟨h0, h1p⟩
                have HE := hid he
                have h0' : 1 ≤ a1 / 2 := by omega
                rw [h0] at hab1
                clear he h0
                go_wp2
                go_round
                case rel => exact ⟨a1 / 2, l1 / 2, by simp, by simp, by omega, by omega, by omega, by rw [← HE.out]; exact HEV.out⟩
                case measure => simp [intOf]; omega
              · have he := evs_no (a := a1) (l := l1) (by omega)
                have HE := hid he
                rw [h0] at hab1
                clear he h0
                go_wp2
                go_roundw
                case rel => exact ⟨j + 1, N, a1 / 2, l1 / 2, by omega, by simp, by simp, by go_num, hx15, hnl, by rw [HDS.out]; have h := HRN2.out; rw [← HEV.out, HE.out] at h; exact hid h, by omega, by omega, by rw [HDS.out]; exact HV1, hk15, hb015⟩
                case measure => simp [intOf]; omega
        · have ha2 : a % 2 = 0 := by omega
          have hal : ((a : Int) == (l : Int)) = false := by simp; omega
          rw [stp_right ha2 (by omega : a ≠ l)] at hst hrn
          obtain rfl : true = d := hst
          have HRN2 : Hid (Runs ds (a / 2) (l / 2)) := hid hrn
          rw [show ((a % 2 : Nat) : Int) = 0 by omega] at hab
          clear hrn hd ha2
          go_wp2_with (first
            | ((with_reducible refine wpAtC ?_); refine wpList_load_agg rfl _ _ rfl _ _ rfl (q.map cb) haq HPC.out ?_; simp only [Act.put, List.setIfInBounds_toArray, List.set_cons_succ, List.set_cons_zero])
            | ((with_reducible refine wpAtC ?_); refine wpList_alloc (w := wr) rfl _ rfl zeroH ?_; intro g15 w12 hg15 hg15' hz12 hb12; simp only [Act.put, List.setIfInBounds_toArray, List.set_cons_succ, List.set_cons_zero])
            | ((with_reducible refine wpAtC ?_); refine wpList_store_agg rfl _ _ _ rfl _ _ rfl (q.map cb).toArray rfl (aggHS hpl2) hz12 (szH hpl2) (one_cbA _) ?_; intro w13 hp13; simp only [Act.put]; rw [splH hpl2] at hp13; have hb13 := bx_put hb12 hp13 hg15; have hq13 := hp13.blk; have hx13 := HXB.out.below hb13 HXB.out.lt)
            | ((with_reducible refine wpAtC ?_); refine wpList_load_agg rfl _ _ rfl _ _ rfl (q.map cb) haq (blk_cells hq13) ?_; simp only [Act.put, List.setIfInBounds_toArray, List.set_cons_succ, List.set_cons_zero])
            | ((with_reducible refine wpAtC ?_); refine wpList_load_agg rfl _ _ rfl _ _ rfl (h.map cb) haxh (blk_cells hx13) ?_; simp only [Act.put, List.setIfInBounds_toArray, List.set_cons_succ, List.set_cons_zero]))
          have hb013 := bx_trans HB.out hb13
          have hk13 := HKB.out.below hb13 HKB.out.lt
          clear hq13 hz12 hp13 hb12
          refine (Node_any w13 (HL.out.below hb013) hhl hpl2).mono ?_
          rintro e w14 ⟨rfl, hb14⟩
          have hnl : (nodeL h q).length = 32 := nodeL_len _ _
          rw [show shaL (1 :: (h ++ q)) = nodeL h q from rfl]
          generalize nodeL h q = N at *
          have hx14 := hx13.below hb14 hx13.lt
          have hk14 := HKB.out.below (bx_trans hb13 hb14) HKB.out.lt
          have hb014 := bx_trans hb013 hb14
          have hsz : 0 + (N.map cb).toArray.size ≤ (h.map cb).toArray.size := by simp [hnl, hhl]
          have hsp : spl (h.map cb).toArray 0 (N.map cb).toArray.toList = (N.map cb).toArray := spl_whole (by simp [hnl, hhl])
          clear hx13 hk13 hb14 hb013
          go_wp2_with ((with_reducible refine wpAtC ?_); refine wpList_store_agg rfl _ _ _ rfl _ _ rfl (N.map cb).toArray rfl (aggHS hnl) hx14 hsz (one_cbA _) ?_; intro w15 hp15; simp only [Act.put]; rw [hsp] at hp15)
          have hx15 := hp15.blk
          have hk15 := hp15.other hk14 (by omega)
          have hb015 := bx_put hb014 hp15 hg13w
          clear hx14 hk14 hb014 hsz hsp hp15
          clear hab hal
          go_roundw
          case rel => exact ⟨j + 1, N, a / 2, l / 2, by omega, by simp, by simp, by go_num, hx15, hnl, by rw [HDS.out]; exact HRN2, by omega, by omega, by rw [HDS.out]; exact HV1, hk15, hb015⟩
          case measure => simp [intOf]; omega
    · have hV1 := HVN.out
      rw [List.drop_of_length_le (l := path) (by rw [HPL.out]; omega)] at hV1
      have hlt2 : ¬ (j : Int) < (p : Int) := by omega
      have hah := aggHL hhl
      have har := aggHL hro
      have hcx := blk_cells HXB.out
      have hck := blk_cells HKB.out
      have heq := eq_hash h root hhl hro
      have HB := hid hbr
      cases hdr : D.drop j with
      | nil =>
        have hr := HRN.out
        rw [hdr] at hr hV1
        obtain ⟨rfl, rfl⟩ := hr
        clear hdr hbr
        by_cases hq : h = root
        · have HE : Hid (V = 0) := hid (by rw [hV1]; exact if_pos hq)
          rw [show (h == root) = true by simpa using hq] at heq
          clear hV1 hq
          go_wp2_with (first
            | ((with_reducible refine wpAtC ?_); refine wpList_loadG rfl _ _ rfl _ _ rfl (h.map cb) hah hcx ?_; simp only [Act.put, List.setIfInBounds_toArray, List.set_cons_succ, List.set_cons_zero])
            | ((with_reducible refine wpAtC ?_); refine wpList_loadG rfl _ _ rfl _ _ rfl (root.map cb) har hck ?_; simp only [Act.put, List.setIfInBounds_toArray, List.set_cons_succ, List.set_cons_zero]))
          go_ret
          exact ⟨by rw [HE.out]; rfl, HB.out⟩
        · have HE : Hid (V = 20) := hid (by rw [hV1]; exact if_neg hq)
          rw [show (h == root) = false by simpa using hq] at heq
          clear hV1 hq
          go_wp2_with (first
            | ((with_reducible refine wpAtC ?_); refine wpList_loadG rfl _ _ rfl _ _ rfl (h.map cb) hah hcx ?_; simp only [Act.put, List.setIfInBounds_toArray, List.set_cons_succ, List.set_cons_zero])
            | ((with_reducible refine wpAtC ?_); refine wpList_loadG rfl _ _ rfl _ _ rfl (root.map cb) har hck ?_; simp only [Act.put, List.setIfInBounds_toArray, List.set_cons_succ, List.set_cons_zero]))
          go_ret
          exact ⟨by rw [HE.out]; rfl, HB.out⟩
      | cons d ds =>
        have hr := HRN.out
        rw [hdr] at hr hV1
        have hl0 := hr.1
        have hlne : ((l : Int) != 0) = true := by simp; omega
        have HE : Hid (V = 20) := hid hV1
        clear hV1 hdr hr heq
        go_wp2_with fail
        go_ret
        exact ⟨by rw [HE.out]; rfl, HB.out⟩
end
section
open Go.RowKit
set_option linter.unusedVariables false
/-- Each row has the narrow hash of the one below, on the side that F tells; the last one has the root. -/
def Linked (wide : Int) (F : Nat → Bool) (l : List (List UInt8)) (h : List UInt8) : Prop :=
  h = narL wide (l.getD (l.length - 1) []) ∧ ∀ k, k + 1 < l.length → ∃ p : List UInt8, p.length = 32 ∧ l.getD (k + 1) [] = rowOf (F k) (narL wide (l.getD k [])) p
theorem rowOf_inj {f : Bool} {x y p q : List UInt8} (hx : x.length = 32) (hy : y.length = 32) (hp : p.length = 32) (hq : q.length = 32) (h : rowOf f x p = rowOf f y q) : x = y := by
  cases f with
  | true =>
    have h : (1 :: (x ++ p) : List UInt8) = 1 :: (y ++ q) := h
    injection h with _ h
    exact (List.append_inj h (by omega)).1
  | false =>
    have h : (1 :: (p ++ x) : List UInt8) = 1 :: (q ++ y) := h
    injection h with _ h
    exact (List.append_inj h (by omega)).2
theorem linked_right {wide : Int} {F : Nat → Bool} {l m : List (List UInt8)} {h : List UInt8} (hl : Linked wide F l h) (hm : Linked wide F m h) (hlm : l.length = m.length) {k : Nat} (hk : k < l.length) (hab : ∀ j, k < j → j < l.length → l.getD j [] = m.getD j []) :
    narL wide (l.getD k []) = narL wide (m.getD k []) := by
  by_cases hk1 : k + 1 < l.length
  · obtain ⟨p, hp, e1⟩ := hl.2 k hk1
    obtain ⟨q, hq, e2⟩ := hm.2 k (by omega)
    have := hab (k + 1) (by omega) hk1
    rw [e1, e2] at this
    exact rowOf_inj (narL_len _ _) (narL_len _ _) hp hq this
  · have hk2 : k = l.length - 1 := by omega
    have e1 := hl.1
    have e2 := hm.1
    rw [← hlm, ← hk2] at e2
    rw [← hk2] at e1
    rw [← e1, ← e2]
theorem getD_app1 {α : Type} {l : List α} {x d : α} {k : Nat} (h : k < l.length) : (l ++ [x]).getD k d = l.getD k d := by
  rw [List.getD_eq_getElem?_getD, List.getD_eq_getElem?_getD, List.getElem?_append_left h]
theorem getD_app2 {α : Type} {l : List α} {x d : α} {k : Nat} (h : k = l.length) : (l ++ [x]).getD k d = x := by
  rw [List.getD_eq_getElem?_getD, h, List.getElem?_append_right (Nat.le_refl _)]
  simp
/-- The steps' sides from below. -/
def sideF (fs : List Bool) (k : Nat) : Bool := fs.getD (fs.length - 1 - k) false
theorem rowsTo_linked {wide : Int} {fs : List Bool} {en : List UInt8} {path : List (List UInt8)} (h : fs.length = path.length) (h32 : ∀ x ∈ path, x.length = 32) : ∀ j, j ≤ path.length → Linked wide (sideF fs) (rowsTo wide fs en path j).1 (rowsTo wide fs en path j).2 := by
  intro j
  induction j with
  | zero =>
    intro _
    refine ⟨rfl, fun k hk => ?_⟩
    rw [rowsTo_zero] at hk
    have hk : k + 1 < 1 := hk
    omega
  | succ j ih =>
    intro hj
    have hi := ih (by omega)
    have hl := rowsTo_len (wide := wide) (en := en) h j (by omega)
    have hsd : fs[fs.length - 1 - j]'(by omega) = sideF fs j := by
      unfold sideF
      rw [List.getD_eq_getElem?_getD, List.getElem?_eq_getElem (by omega)]
      rfl
    have hq := h32 path[j] (List.getElem_mem (by omega))
    rw [rowsTo_succ h (by omega), hsd]
    clear hsd
    generalize path[j] = q at *
    generalize rowsTo wide fs en path j = s at *
    show Linked wide (sideF fs) (s.1 ++ [rowOf (sideF fs j) s.2 q]) (narL wide (rowOf (sideF fs j) s.2 q))
    refine ⟨?_, fun k hk => ?_⟩
    · rw [List.length_append, getD_app2 (by simp)]
    · rw [List.length_append] at hk
      have hk : k + 1 < s.1.length + 1 := hk
      by_cases hk2 : k + 1 < s.1.length
      · obtain ⟨p, hp, e⟩ := hi.2 k hk2
        exact ⟨p, hp, by rw [getD_app1 hk2, getD_app1 (by omega)]; exact e⟩
      · have hkj : k = j := by omega
        refine ⟨q, hq, ?_⟩
        rw [getD_app2 (by omega), getD_app1 (by omega), hkj]
        have := hi.1
        rw [hl, Nat.add_sub_cancel] at this
        rw [← this]
theorem rowsR_linked {wide : Int} {size i : Nat} {en : List UInt8} {path : List (List UInt8)} (h : rowsE size i path.length = 0) (h32 : ∀ x ∈ path, x.length = 32) : Linked wide (sideF (flg size i)) (rowsR wide size i en path) (rowsH wide size i en path) := by
  have hf := (rowsE_ok h).2
  unfold rowsR rowsH
  rw [if_pos h, if_pos h, ← rowsTo_all hf]
  exact rowsTo_linked hf h32 _ (Nat.le_refl _)
theorem chTo_linked {wide : Int} {fs : List Bool} {x : List UInt8} {path : List (List UInt8)} (h : fs.length = path.length) (h32 : ∀ x ∈ path, x.length = 32) : ∀ j, 1 ≤ j → j ≤ path.length → Linked wide (fun k => sideF fs (k + 1)) (chTo wide fs x path j).1 (chTo wide fs x path j).2.2 := by
  intro j
  induction j with
  | zero => intro h1; omega
  | succ j ih =>
    intro _ hj
    have hl := chTo_len (wide := wide) (x := x) h j (by omega)
    have hsd : fs[fs.length - 1 - j]'(by omega) = sideF fs j := by
      unfold sideF
      rw [List.getD_eq_getElem?_getD, List.getElem?_eq_getElem (by omega)]
      rfl
    have hq := h32 path[j] (List.getElem_mem (by omega))
    rw [chTo_succ h (by omega), hsd]
    clear hsd
    generalize path[j] = q at *
    by_cases hj0 : j = 0
    · generalize chTo wide fs x path j = s at *
      show Linked wide _ (s.1 ++ [rowOf (sideF fs j) s.2.2 q]) (narL wide (rowOf (sideF fs j) s.2.2 q))
      refine ⟨?_, fun k hk => ?_⟩
      · rw [List.length_append, getD_app2 (by simp)]
      · rw [List.length_append] at hk
        have hk : k + 1 < s.1.length + 1 := hk
        omega
    · have hi := ih (by omega) (by omega)
      generalize chTo wide fs x path j = s at *
      show Linked wide _ (s.1 ++ [rowOf (sideF fs j) s.2.2 q]) (narL wide (rowOf (sideF fs j) s.2.2 q))
      refine ⟨?_, fun k hk => ?_⟩
      · rw [List.length_append, getD_app2 (by simp)]
      · rw [List.length_append] at hk
        have hk : k + 1 < s.1.length + 1 := hk
        by_cases hk2 : k + 1 < s.1.length
        · obtain ⟨p, hp, e⟩ := hi.2 k hk2
          exact ⟨p, hp, by rw [getD_app1 hk2, getD_app1 (by omega)]; exact e⟩
        · have hkj : k + 1 = j := by omega
          refine ⟨q, hq, ?_⟩
          rw [getD_app2 (by omega), getD_app1 (by omega)]
          have := hi.1
          rw [show s.1.length - 1 = k by omega] at this
          rw [← this]
          show rowOf (sideF fs j) s.2.2 q = rowOf (sideF fs (k + 1)) s.2.2 q
          rw [hkj]
theorem crest_32 {m n : Nat} {path : List (List UInt8)} (h32 : ∀ x ∈ path, x.length = 32) : ∀ x ∈ crest m n path, x.length = 32 := by
  intro x hx
  unfold crest at hx
  split at hx
  · exact h32 x hx
  · exact h32 x (List.mem_of_mem_drop hx)
theorem chainedL_linked {wide : Int} {m n : Nat} {old : List UInt8} {path : List (List UInt8)} (h : chainedE m n path.length = 0) (h32 : ∀ x ∈ path, x.length = 32) (h1 : 1 ≤ (chainedL wide m n old path).1.length) :
    Linked wide (fun k => sideF (steps m n) (k + 1)) (chainedL wide m n old path).1 (chainedL wide m n old path).2.2 := by
  obtain ⟨e1, e2, e3⟩ := chainedE_ok h
  have hc := crest_len e1 e2 e3
  rw [chainedL_len h] at h1
  rw [chainedL_ok h, ← chTo_all hc]
  exact chTo_linked hc (crest_32 h32) _ (by omega) (Nat.le_refl _)
/-! ### How long a row is -/
theorem rowOf_len {f : Bool} {x p : List UInt8} (hx : x.length = 32) (hp : p.length = 32) : (rowOf f x p).length = 65 := by
  cases f
  · show (1 :: (p ++ x) : List UInt8).length = 65
    rw [List.length_cons, List.length_append, hx, hp]
  · show (1 :: (x ++ p) : List UInt8).length = 65
    rw [List.length_cons, List.length_append, hx, hp]
theorem linked_len {wide : Int} {F : Nat → Bool} {l : List (List UInt8)} {h : List UInt8} (hl : Linked wide F l h) {b : Nat} (h0 : (l.getD 0 []).length ≤ b) {k : Nat} (hk : k < l.length) : (l.getD k []).length ≤ max b 65 := by
  cases k with
  | zero => omega
  | succ k =>
    obtain ⟨p, hp, e⟩ := hl.2 k hk
    rw [e, rowOf_len (narL_len _ _) hp]
    omega
theorem foldl_rstep (wide : Int) : ∀ (xs : List (Bool × List UInt8)) (l0 : List (List UInt8)) (h : List UInt8), xs.foldl (rstep wide) (l0, h) = (l0 ++ (xs.foldl (rstep wide) ([], h)).1, (xs.foldl (rstep wide) ([], h)).2)
  | [], l0, h => by simp
  | x :: xs, l0, h => by
    rw [List.foldl_cons, List.foldl_cons]
    show xs.foldl (rstep wide) (l0 ++ [rowOf x.1 h x.2], narL wide (rowOf x.1 h x.2)) = _
    rw [foldl_rstep wide xs (l0 ++ [rowOf x.1 h x.2])]
    have : rstep wide ([], h) x = ([rowOf x.1 h x.2], narL wide (rowOf x.1 h x.2)) := rfl
    rw [this, foldl_rstep wide xs [rowOf x.1 h x.2], List.append_assoc]
theorem rowsL_first (wide : Int) (fs : List Bool) (en : List UInt8) (path : List (List UInt8)) : ∃ R, (rowsL wide fs en path).1 = (0 :: en) :: R := by
  unfold rowsL
  rw [foldl_rstep]
  exact ⟨_, rfl⟩
theorem rowsL_same {wide : Int} {fs : List Bool} {a b : List UInt8} {path : List (List UInt8)} (h : narL wide (0 :: a) = narL wide (0 :: b)) :
    (rowsL wide fs a path).2 = (rowsL wide fs b path).2 ∧ ∃ R, (rowsL wide fs a path).1 = (0 :: a) :: R ∧ (rowsL wide fs b path).1 = (0 :: b) :: R := by
  unfold rowsL
  rw [foldl_rstep, h]
  rw [foldl_rstep wide _ [0 :: b]]
  exact ⟨rfl, _, rfl, rfl⟩
theorem rowsR_zero {wide : Int} {size i : Nat} {en : List UInt8} {path : List (List UInt8)} (h : rowsE size i path.length = 0) : (rowsR wide size i en path).getD 0 [] = 0 :: en := by
  unfold rowsR
  rw [if_pos h]
  obtain ⟨R, hR⟩ := rowsL_first wide (flg size i) en path
  rw [hR]
  rfl
/-! ### Whole hashes -/
theorem wide32 : wideN 32 = 32 := rfl
theorem cutL_all {h : List UInt8} (hl : h.length ≤ 32) : cutL 32 h = h := by
  unfold cutL
  rw [List.take_of_length_le hl, show h.length - 32 = 0 by omega, List.replicate_zero, List.append_nil]
theorem narL_32 (b : List UInt8) : narL 32 b = shaL b := by
  unfold narL
  rw [wide32]
  exact cutL_all (by rw [shaL_length]; exact Nat.le_refl _)
def upF (h : List UInt8) (x : Bool × List UInt8) : List UInt8 := if x.1 then nodeL h x.2 else nodeL x.2 h
theorem rows_up : ∀ (xs : List (Bool × List UInt8)) (l0 : List (List UInt8)) (h : List UInt8), (xs.foldl (rstep 32) (l0, h)).2 = xs.foldl upF h
  | [], _, _ => rfl
  | x :: xs, l0, h => by
    rw [List.foldl_cons, List.foldl_cons]
    have : rstep 32 (l0, h) x = (l0 ++ [rowOf x.1 h x.2], upF h x) := by
      show (l0 ++ [rowOf x.1 h x.2], narL 32 (rowOf x.1 h x.2)) = _
      rw [narL_32]
      unfold upF rowOf
      cases x.1 <;> rfl
    rw [this]
    exact rows_up xs _ _
theorem finV_eq (root : List UInt8) : ∀ (ds : List Bool) (ps : List (List UInt8)) (h : List UInt8), finV root h ds ps = if ds.length = ps.length ∧ (ds.zip ps).foldl upF h = root then 0 else 20
  | [], [], h => by simp [finV]
  | d :: ds, [], h => by simp [finV]
  | [], p :: ps, h => by simp [finV]
  | d :: ds, p :: ps, h => by
    show finV root (if d then nodeL h p else nodeL p h) ds ps = _
    rw [finV_eq root ds ps]
    simp only [List.length_cons, Nat.succ_inj, List.zip_cons_cons, List.foldl_cons]
    rfl
theorem verT_made {size i : Nat} {en : List UInt8} {path : List (List UInt8)} : verT size i (rowsH 32 size i en path) en path = rowsE size i path.length := by
  unfold verT rowsE
  split
  · rfl
  · rename_i hi
    rw [finV_eq, List.length_reverse]
    by_cases hl : (flg size i).length = path.length
    · rw [if_pos hl]
      have he : rowsE size i path.length = 0 := by unfold rowsE; rw [if_neg hi, if_pos hl]
      have hm : ((flg size i).reverse.zip path).foldl upF (shaL (0 :: en)) = rowsH 32 size i en path := by
        unfold rowsH
        rw [if_pos he]
        unfold rowsL
        rw [rows_up, narL_32]
      rw [if_pos ⟨hl, hm⟩]
    · rw [if_neg hl, if_neg (fun h => hl h.1)]
theorem ch_made : ∀ (xs : List (Bool × List UInt8)) (l0 : List (List UInt8)) (x y : List UInt8), (xs.foldl (cstep 32) (l0, x, y)).2 = xs.foldl mstep (x, y)
  | [], _, _, _ => rfl
  | z :: xs, l0, x, y => by
    rw [List.foldl_cons, List.foldl_cons]
    have : cstep 32 (l0, x, y) z = (l0 ++ [rowOf z.1 y z.2], mstep (x, y) z) := by
      show (l0 ++ [rowOf z.1 y z.2], (if z.1 then x else narL 32 (rowOf false x z.2)), narL 32 (rowOf z.1 y z.2)) = _
      rw [narL_32, narL_32]
      unfold mstep rowOf
      cases z.1 <;> rfl
    rw [this]
    exact ch_made xs _ _ _
theorem chainedL_made {m n : Nat} {old : List UInt8} {path : List (List UInt8)} (h : chainedE m n path.length = 0) : (chainedL 32 m n old path).2 = madeL m n old path := by
  rw [chainedL_ok h]
  unfold chL
  rw [ch_made]
  unfold madeL cfst crest mfold
  split <;> rfl
theorem verL_chained {m n : Nat} {old : List UInt8} {path : List (List UInt8)} : verL m n old (chainedL 32 m n old path).2.2 path = if chainedE m n path.length = 0 then (if (chainedL 32 m n old path).2.1 = old then 0 else 20) else chainedE m n path.length := by
  by_cases h : chainedE m n path.length = 0
  · obtain ⟨h1, h2, h3⟩ := chainedE_ok h
    rw [if_pos h]
    unfold verL
    rw [if_neg (by omega), chainedL_made h]
    by_cases hx : (madeL m n old path).1 = old
    · have hm : madeL m n old path = (old, (madeL m n old path).2) := Prod.ext hx rfl
      rw [if_pos hx, if_pos ⟨h3, hm⟩]
    · rw [if_neg hx, if_neg]
      rintro ⟨_, h5⟩
      exact hx (by rw [h5])
  · rw [if_neg h]
    unfold verL
    unfold chainedE at h ⊢
    by_cases h1 : m < 1 ∨ n < m
    · rw [if_pos h1, if_pos h1]
    · rw [if_neg h1] at h
      rw [if_neg h1, if_neg h1]
      by_cases h2 : path.length = longN m n
      · rw [if_pos h2] at h
        exact absurd rfl h
      · rw [if_neg h2, if_neg (fun h3 => h2 h3.1)]
end
end Go.Proofs.YtgaefejblmnklaaDoor
