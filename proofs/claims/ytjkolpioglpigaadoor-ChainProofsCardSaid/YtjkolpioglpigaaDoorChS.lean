
/- The document's answer for chains: Made, walked. -/
import Derived.Test.YtjkolpioglpigaaDoorChQ
namespace Go.Proofs.YtjkolpioglpigaaDoor
open Go.RowKit
set_option linter.unusedVariables false
/-- What a round of Made keeps. -/
def MRel (ds : List Bool) (rest : List (List UInt8)) (x0 : List UInt8) (g13 g14 : Nat) (wb : World) (v15 : Value) (wr : World) : Prop :=
  ∃ (j : Nat) (xs ys : List UInt8), j ≤ ds.length ∧ (xs, ys) = ((ds.zip rest).take j).foldl mstep (x0, x0) ∧ v15 = .int .i64 (j : Int) ∧ Blk wr g13 tH (xs.map cb).toArray ∧ Blk wr g14 tH (ys.map cb).toArray ∧ Below wb.heap.size wb wr ∧ xs.length = 32 ∧ ys.length = 32
/-- One store of the last region has been, or not. -/
def MK (wo : World) (g8 : Nat) (xs : List UInt8) : List (Option Value) → World → Prop
  | [none], w' => w' = wo.drew
  | [some _], w' => Put wo.drew w' g8 tH (xs.map cb).toArray
  | _, _ => True
theorem MK_blk {wo w' : World} {g8 g : Nat} {xs : List UInt8} {k : Option Value} {t : TypeId} {cs : Array Value} (h : MK wo g8 xs [k] w') (hb : Blk wo g t cs) (hne : g ≠ g8) : Blk w' g t cs := by
  cases k with
  | none =>
    have : w' = wo.drew := h
    subst this
    exact hb
  | some v =>
    have hp : Put wo.drew w' g8 tH (xs.map cb).toArray := h
    exact hp.other (show Blk wo.drew g t cs from hb) hne
set_option maxRecDepth 10000 in
set_option maxHeartbeats 4000000 in
theorem rMade_W (w : World) (m n p c : Nat) (A : Option Addr) (old : List UInt8) (path : List (List UInt8)) (hpl : path.length = p) (h1 : 1 ≤ m) (h2 : m ≤ n) (hn : n < 18446744073709551616) (ho : old.length = 32) (hpa : ∀ x ∈ path, x.length = 32) (hr : Rd w w.heap.size A (path.flatten.map cb)) (hc : p ≤ c) (hlong : p = longN m n) (hwh : wholeN m n = true) :
    Calls Tryd.prog 18 #[.int .u64 (m : Int), .int .u64 (n : Int), .agg (old.map cb).toArray, .slice A p c] w fun e w' => e = .returned (.tuple #[.agg ((madeL m n old path).1.map cb).toArray, .agg ((madeL m n old path).2.map cb).toArray, .bool true]) ∧ Below w.heap.size w w' := by
  have hlo := longN_eq h1 h2
  have hle65 := longN_le h1 h2 hn
  have hmd : madeL m n old path = madeL m n old path := rfl
  conv at hmd => rhs; unfold madeL
  have HS := hid (fun w' => rsteps_any w' m n h1 h2 hn)
  have HLG := hid (fun w' => rLong_any w' m n (by omega) hn)
  rw [← hlong] at HLG
  rw [hwh] at hlo hmd HS
  generalize madeL m n old path = XY at *
  obtain ⟨X, Y⟩ := XY
  obtain ⟨ds, hds⟩ : ∃ ds, ds = steps m n := ⟨_, rfl⟩
  rw [← hds] at hlo hmd HS
  simp only [↓reduceIte] at hlo hmd
  obtain ⟨x0, hx0⟩ : ∃ x0, x0 = old := ⟨_, rfl⟩
  have hxl : x0.length = 32 := by rw [hx0]; exact ho
  obtain ⟨rest, hrest⟩ : ∃ rest, rest = path := ⟨_, rfl⟩
  rw [← hx0, ← hrest] at hmd
  have hrl : rest.length = ds.length := by rw [hrest]; omega
  have hrk : ∀ y ∈ rest, y.length = 32 := by rw [hrest]; exact hpa
  have HX0 := hid hx0
  have HREST := hid hrest
  clear hx0 hrest
  unfold mfold at hmd
  have hdl : ds.length ≤ 65 := by omega
  have hpd : p = ds.length := by omega
  have HMD := hid hmd
  have HRL := hid hrl
  have HRK := hid hrk
  have HRR := hid hr
  have HPA := hid hpa
  have HPL := hid hpl
  have HPD := hid hpd
  have hp65 : p ≤ 65 := by omega
  have hpd1 : p ≤ ds.length := by omega
  have hpd2 : ds.length ≤ p := by omega

  clear hpd hds hmd hrl hrk hr hpa hpl hlo hlong hwh hle65
  have hA : Blk (w.alloc (.cells (old.map cb).toArray tH)) w.heap.size tH (old.map cb).toArray := Blk.new w _ _
  have hb0 : Below w.heap.size w (w.alloc (.cells (old.map cb).toArray tH)) := bx_alloc (Below.refl _ _) _
  go_enter Tryd.func18, Tryd.ntmps18
  go_wp2_with (first
    | ((with_reducible refine wpAtC ?_); refine wpList_alloc (w := w.alloc (.cells (old.map cb).toArray tH)) rfl _ rfl zeroH ?_; intro g8 w8 hg8 hg8' hz8 hb8; simp only [Act.put, List.setIfInBounds_toArray, List.set_cons_succ, List.set_cons_zero])
    | ((with_reducible refine wpAtC ?_); refine wpList_alloc (w := w8) rfl _ rfl zeroH ?_; intro g9 w9 hg9 hg9' hz9 hb9; simp only [Act.put, List.setIfInBounds_toArray, List.set_cons_succ, List.set_cons_zero]))
  have hz89 := hz8.below hb9 hg8'
  have hA9 := (hA.below hb8 hA.lt).below hb9 (Nat.lt_of_lt_of_le hA.lt hb8.size)
  have hb09 := bx_trans (bx_trans hb0 hb8) hb9
  have hne89 : g8 ≠ g9 := by omega
  have hw8 : w.heap.size ≤ g8 := Nat.le_trans hb0.size hg8
  have hw9 : w.heap.size ≤ g9 := by omega
  obtain ⟨g6, hg6⟩ : ∃ g6, g6 = w.heap.size := ⟨_, rfl⟩
  rw [← hg6] at hA9 ⊢
  clear hz8 hb8 hb9 hb0 hA hg6
  refine (HS.out w9).mono ?_
  rintro e w10 ⟨v, rfl, hown, hb10⟩
  obtain ⟨AD, cD, rfl, _, _, _⟩ := own_form hown
  have HO10 := hid hown
  have hz8 := hz89.below hb10 hz89.lt
  have hz9' := hz9.below hb10 hz9.lt
  have hA10 := hA9.below hb10 hA9.lt
  have hb010 := bx_trans hb09 hb10
  clear hown hz89 hz9 hb09 hb10 hA9
  go_wp2_with fail
  refine (HLG.out w10).mono ?_
  rintro e w11 ⟨rfl, hb11⟩
  have hz811 := hz8.below hb11 hz8.lt
  have hz911 := hz9'.below hb11 hz9'.lt
  have hA11 := hA10.below hb11 hA10.lt
  have HB11 := hid (bx_trans hb010 hb11)
  have HO11 := hid (own_keep HO10.out hb11)
  have hao := aggHL ho
  have hcA := blk_cells hA11
  clear hz8 hz9' hb010 hb11 hA10 HO10
  go_wp2_with (first
    | ((with_reducible refine wpAtC ?_); refine wpList_loadG rfl _ _ rfl _ _ rfl (old.map cb) hao hcA ?_; simp only [Act.put, List.setIfInBounds_toArray, List.set_cons_succ, List.set_cons_zero])
    | ((with_reducible refine wpAtC ?_); refine wpList_alloc (w := w11) rfl _ rfl zeroH ?_; intro g13 w13 hg13 hg13' hz13 hb13; simp only [Act.put, List.setIfInBounds_toArray, List.set_cons_succ, List.set_cons_zero])
    | ((with_reducible refine wpAtC ?_); refine wpList_store_agg rfl _ _ _ rfl _ _ rfl (old.map cb).toArray rfl (aggHS ho) hz13 (szH ho) (one_cbA old) ?_; intro w14 hp14; simp only [Act.put]; rw [splH ho] at hp14; have hx14 := hp14.blk; have hcx := blk_cells hx14)
    | ((with_reducible refine wpAtC ?_); refine wpList_loadG rfl _ _ rfl _ _ rfl (old.map cb) hao hcx ?_; simp only [Act.put, List.setIfInBounds_toArray, List.set_cons_succ, List.set_cons_zero])
    | ((with_reducible refine wpAtC ?_); refine wpList_alloc (w := w14) rfl _ rfl zeroH ?_; intro g14 w15 hg14 hg14' hz15 hb15; simp only [Act.put, List.setIfInBounds_toArray, List.set_cons_succ, List.set_cons_zero])
    | ((with_reducible refine wpAtC ?_); refine wpList_store_agg rfl _ _ _ rfl _ _ rfl (old.map cb).toArray rfl (aggHS ho) hz15 (szH ho) (one_cbA old) ?_; intro w16 hp16; simp only [Act.put]; rw [splH ho] at hp16))
  have hb14 := hb13.trans (hp14.below hg13)
  have hb16 := (hb14.trans (hb15.mono hb14.size)).trans (hp16.below (Nat.le_trans hb14.size hg14))
  have hy16 := hp16.blk
  have hne1 : g13 ≠ g14 := by have := hx14.lt; omega
  have hx16 := hp16.other (hx14.below hb15 hx14.lt) hne1
  rw [← HX0.out] at hx16 hy16
  have hw14 : w11.heap.size ≤ g14 := Nat.le_trans hb14.size hg14
  have HPATH := hid (show ∀ j (hj : j < rest.length), ∃ b off, (A = some ⟨b, off, none⟩) ∧ b < w.heap.size ∧ ∀ k v, (rest[j].map cb)[k]? = some v → w.cell? ⟨b, off + j * 32 + k, none⟩ = some v from fun j hj => by
    have hrr := HRR.out
    rw [← HREST.out] at hrr
    have hk : 0 < (rest.flatten.map cb).length := by rw [List.length_map, hs_len HRK.out]; omega
    obtain ⟨b, off, he, _, _⟩ := hrr.at_ hk
    subst he
    obtain ⟨q1, q2⟩ := rd_hash hrr HRK.out j hj
    exact ⟨b, off, rfl, q1, q2⟩)
  clear hp14 hb13 hz13 hb14 hp16 hb15 hz15 hx14 hcx hcA hA11
  go_loopw [15] (fun v15 wr => MRel ds.reverse rest x0 g13 g14 w11 v15 wr) (fun v15 _ => ds.length - (intOf v15).toNat)
  case atStart => exact ⟨0, x0, x0, by omega, by rw [List.take_zero]; rfl, rfl, hx16, hy16, hb16, hxl, hxl⟩
  case round =>
    obtain ⟨j, xs, ys, hj, hst, rfl, hx, hy, hbr, hxs, hys⟩ := hrel
    rw [List.length_reverse] at hj
    clear hx16 hy16 hb16
    rename World => wo
    by_cases hlt : j < ds.length
    · have hjr : j < rest.length := by rw [HRL.out]; exact hlt
      have hjr2 : j < ds.reverse.length := by rw [List.length_reverse]; exact hlt
      have hzl : j < (ds.reverse.zip rest).length := by rw [List.length_zip, List.length_reverse, HRL.out]; omega
      obtain ⟨k, hk⟩ : ∃ k : Nat, k = ds.length - 1 - j := ⟨_, rfl⟩
      have hkl : k < ds.length := by omega
      have htk : ((ds.reverse.zip rest).take (j + 1)).foldl mstep (x0, x0) = mstep (xs, ys) (ds[k], rest[j]) := by
        rw [List.take_succ_eq_append_getElem hzl, List.foldl_append, ← hst]
        simp only [List.getElem_zip, List.getElem_reverse, List.foldl_cons, List.foldl_nil]
        congr 2
        simp only [hk]
      have hhl := HRK.out _ (List.getElem_mem hjr)
      obtain ⟨b, off, rfl, hbB, hpw⟩ := HPATH.out j hjr
      have HPW := hid (fun i v hv => ((HB11.out.cell (p := ⟨b, off + j * 32 + i, none⟩) hbB)).trans (hpw i v hv))
      have hpc := fun i v hv => (hbr.cell (p := ⟨b, off + j * 32 + i, none⟩) (Nat.lt_of_lt_of_le hbB HB11.out.size)).trans (HPW.out i v hv)
      clear hpw
      obtain ⟨gD, capD, heD, _, hgD, _, _⟩ := own_block HO11.out (by omega)
      injection heD with heD _ heD2
      subst heD heD2
      have hcD : wo.cell? ⟨gD, k, none⟩ = some (.bool ds[k]) := by
        obtain ⟨b', off', he, _, hc'⟩ := (own_rd HO11.out).at_ (k := k) (by rw [List.length_map]; exact hkl)
        injection he with he
        injection he with e1 e2
        subst e1 e2
        have := hc' k (bv ds[k]) (by rw [List.getElem?_map, List.getElem?_eq_getElem hkl]; rfl)
        rw [Nat.zero_add] at this
        exact (hbr.cell (p := ⟨gD, k, none⟩) hgD).trans this
      generalize rest[j] = h at *
      have HST := hid htk
      have HST0 := hid hst
      obtain ⟨q1, hq1⟩ : ∃ q : Nat, q = ds.length - 1 := ⟨_, rfl⟩
      have e1 : (ds.length : Int) - 1 = (q1 : Int) := by omega
      have e2 : (q1 : Int) - (j : Int) = (k : Int) := by omega
      have hjp : j < p := by omega
      have hah := aggHL hhl
      have hax := aggHL hxs
      have hay := aggHL hys
      have HB := hid hbr
      have HPC := hid hpc
      have hblw : b < wo.heap.size := Nat.lt_of_lt_of_le hbB (bx_trans HB11.out hbr).size
      have HMD2 := HMD
      clear htk hst hq1 hk hpc hbr
      generalize hdk : ds[k] = d at *
      have HDK := hid hdk
      clear hdk
      cases d with
      | true =>
        have hms : mstep (xs, ys) (true, h) = (xs, nodeL ys h) := rfl
        rw [hms] at HST
        clear hms
        go_wp2_with fail
        clear hcD e1 e2
        refine wp_flow (by kernel_rfl) [0, 0, 0, 6, 14, 31, 63] 6 [false, false, false, false, false, false, false, false, false, false, false, false, false, false, false, false, false, false, false, false, false, false, false, false, false, false, false, false, false, false, false, false, false, false, false, false, false, false, false, false, false, false, false, false, false, false, false, false, false, false, false, false, false, true, true, true, true, true, true] (by kernel_rfl) (by decide) (by kernel_rfl) [FP.eq (.agg (ys.map cb).toArray), FP.eq (.slice (some ⟨b, off, none⟩) p c), FP.eq (.int .i64 (j : Int)), FP.eq (.pointer (some ⟨b, off + j * 32, none⟩)), FP.eq (.agg (h.map cb).toArray), FP.eq (.agg ((nodeL ys h).map cb).toArray)] ?_ ?_
        · refine allFrom_cons ?_ ?_
          · intro a_ w_ hk_
            have h14 : a_.eval (.tmp 14) = .pointer (some ⟨g14, 0, none⟩) := hk_.old 14 (by kernel_rfl)
            have hx_ := hk_.ext
            clear hk_
            refine flow_plain rfl ?_
            exact gives_ldC rfl h14 hay (blk_cells (hy.below hx_ hy.lt)) ⟨Below.refl _ _, rfl⟩
          refine allFrom_cons ?_ ?_
          · intro a_ w_ hk_
            have h3 : a_.eval (.tmp 3) = .slice (some ⟨b, off, none⟩) p c := hk_.old 3 (by kernel_rfl)
            have hx_ := hk_.ext
            clear hk_
            refine flow_plain rfl ?_
            exact gives_move rfl ⟨Below.refl _ _, h3⟩
          refine allFrom_cons ?_ ?_
          · intro a_ w_ hk_
            have h15 : a_.eval (.tmp 15) = .int .i64 (j : Int) := hk_.old 15 (by kernel_rfl)
            have hx_ := hk_.ext
            clear hk_
            refine flow_plain rfl ?_
            exact gives_move rfl ⟨Below.refl _ _, h15⟩
          refine allFrom_cons ?_ ?_
          · intro a_ w_ hk_
            have h54 : a_.eval (.tmp 54) = (.slice (some ⟨b, off, none⟩) p c) := hk_.got 1 54 _ (by kernel_rfl) rfl rfl
            have h55 : a_.eval (.tmp 55) = (.int .i64 (j : Int)) := hk_.got 2 55 _ (by kernel_rfl) rfl rfl
            have hx_ := hk_.ext
            clear hk_
            refine flow_plain rfl ?_
            unfold gives
            have hc_ : ∀ v, a_.eval (.const v) = v := fun _ => rfl
            have hn_ : ∀ f, a_.eval (.func f) = .func (.func f) #[] #[] := fun _ => rfl
            generalize a_.eval = ρ_ at *
            go_simp
            exact ⟨Below.refl _ _, rfl⟩
          refine allFrom_cons ?_ ?_
          · intro a_ w_ hk_
            have h56 : a_.eval (.tmp 56) = (.pointer (some ⟨b, off + j * 32, none⟩)) := hk_.got 3 56 _ (by kernel_rfl) rfl rfl
            have hx_ := hk_.ext
            clear hk_
            refine flow_plain rfl ?_
            exact gives_ldC rfl h56 hah (fun i v hv => (hx_.cell (p := ⟨b, off + j * 32 + i, none⟩) hblw).trans (HPC.out i v hv)) ⟨Below.refl _ _, rfl⟩
          refine allFrom_cons ?_ ?_
          · intro a_ w_ hk_
            have h53 : a_.eval (.tmp 53) = (.agg (ys.map cb).toArray) := hk_.got 0 53 _ (by kernel_rfl) rfl rfl
            have h57 : a_.eval (.tmp 57) = (.agg (h.map cb).toArray) := hk_.got 4 57 _ (by kernel_rfl) rfl rfl
            have hx_ := hk_.ext
            clear hk_
            refine flow_plain rfl ?_
            unfold gives
            have hc_ : ∀ v, a_.eval (.const v) = v := fun _ => rfl
            have hn_ : ∀ f, a_.eval (.func f) = .func (.func f) #[] #[] := fun _ => rfl
            generalize a_.eval = ρ_ at *
            go_simp
            exact (rNode_any w_ hys hhl).mono fun e w' hh => ⟨_, hh.1, hh.2, rfl⟩
          exact allFrom_nil
        intro f_ w_ hx_ hf_
        have h53 : f_ 53 = (.agg (ys.map cb).toArray) := hf_ 0 53 _ (by decide) rfl rfl
        have h54 : f_ 54 = (.slice (some ⟨b, off, none⟩) p c) := hf_ 1 54 _ (by decide) rfl rfl
        have h55 : f_ 55 = (.int .i64 (j : Int)) := hf_ 2 55 _ (by decide) rfl rfl
        have h56 : f_ 56 = (.pointer (some ⟨b, off + j * 32, none⟩)) := hf_ 3 56 _ (by decide) rfl rfl
        have h57 : f_ 57 = (.agg (h.map cb).toArray) := hf_ 4 57 _ (by decide) rfl rfl
        have h58 : f_ 58 = (.agg ((nodeL ys h).map cb).toArray) := hf_ 5 58 _ (by decide) rfl rfl
        simp only [mix, List.drop_succ_cons, List.drop_zero, h53, h54, h55, h56, h57, h58]
        clear h53 h54 h55 h56 h57 h58
        clear hf_
        rename World => wz
        have hyz := hy.below hx_ hy.lt
        have hxz := hx.below hx_ hx.lt
        have hbz := HB.out.trans (hx_.mono HB.out.size)
        have hnl := nodeL_len ys h
        clear hx hy hx_ HB
        generalize nodeL ys h = N at *
        go_wp2_with ((with_reducible refine wpAtC ?_); refine wpList_store_agg rfl _ _ _ rfl _ _ rfl (N.map cb).toArray rfl (aggHS hnl) hyz (by rw [List.size_toArray, List.size_toArray, List.length_map, List.length_map]; omega) (one_cbA N) ?_; intro w18 hp18; simp only [Act.put])
        rw [show spl (ys.map cb).toArray 0 (N.map cb).toArray.toList = (N.map cb).toArray from spl_whole (by rw [List.size_toArray, List.size_toArray, List.length_map, List.length_map]; omega)] at hp18
        go_roundw
        case rel => exact ⟨j + 1, xs, N, by rw [List.length_reverse]; omega, HST.out.symm, by go_num, hp18.other hxz hne1, hp18.blk, hbz.trans (hp18.below hw14), hxs, hnl⟩
        case measure => simp [intOf]; omega
      | false =>
        have hms : mstep (xs, ys) (false, h) = (nodeL h xs, nodeL h ys) := rfl
        rw [hms] at HST
        clear hms
        go_wp2_with fail
        clear hcD e1 e2
        refine wp_flow (by kernel_rfl) [0, 0, 3, 7, 0, 31, 63] 6 [false, false, false, false, false, false, false, false, false, false, false, false, false, false, false, false, false, false, false, false, false, false, false, false, false, false, false, false, false, false, false, false, false, false, false, false, false, false, false, false, false, false, false, false, false, false, false, false, false, false, false, false, false, false, false, false, false, false, false, true, true, true, true, true, true] (by kernel_rfl) (by decide) (by kernel_rfl) [FP.eq (.slice (some ⟨b, off, none⟩) p c), FP.eq (.int .i64 (j : Int)), FP.eq (.pointer (some ⟨b, off + j * 32, none⟩)), FP.eq (.agg (h.map cb).toArray), FP.eq (.agg (xs.map cb).toArray), FP.eq (.agg ((nodeL h xs).map cb).toArray)] ?_ ?_
        · refine allFrom_cons ?_ ?_
          · intro a_ w_ hk_
            have h3 : a_.eval (.tmp 3) = .slice (some ⟨b, off, none⟩) p c := hk_.old 3 (by kernel_rfl)
            have hx_ := hk_.ext
            clear hk_
            refine flow_plain rfl ?_
            exact gives_move rfl ⟨Below.refl _ _, h3⟩
          refine allFrom_cons ?_ ?_
          · intro a_ w_ hk_
            have h15 : a_.eval (.tmp 15) = .int .i64 (j : Int) := hk_.old 15 (by kernel_rfl)
            have hx_ := hk_.ext
            clear hk_
            refine flow_plain rfl ?_
            exact gives_move rfl ⟨Below.refl _ _, h15⟩
          refine allFrom_cons ?_ ?_
          · intro a_ w_ hk_
            have h59 : a_.eval (.tmp 59) = (.slice (some ⟨b, off, none⟩) p c) := hk_.got 0 59 _ (by kernel_rfl) rfl rfl
            have h60 : a_.eval (.tmp 60) = (.int .i64 (j : Int)) := hk_.got 1 60 _ (by kernel_rfl) rfl rfl
            have hx_ := hk_.ext
            clear hk_
            refine flow_plain rfl ?_
            unfold gives
            have hc_ : ∀ v, a_.eval (.const v) = v := fun _ => rfl
            have hn_ : ∀ f, a_.eval (.func f) = .func (.func f) #[] #[] := fun _ => rfl
            generalize a_.eval = ρ_ at *
            go_simp
            exact ⟨Below.refl _ _, rfl⟩
          refine allFrom_cons ?_ ?_
          · intro a_ w_ hk_
            have h61 : a_.eval (.tmp 61) = (.pointer (some ⟨b, off + j * 32, none⟩)) := hk_.got 2 61 _ (by kernel_rfl) rfl rfl
            have hx_ := hk_.ext
            clear hk_
            refine flow_plain rfl ?_
            exact gives_ldC rfl h61 hah (fun i v hv => (hx_.cell (p := ⟨b, off + j * 32 + i, none⟩) hblw).trans (HPC.out i v hv)) ⟨Below.refl _ _, rfl⟩
          refine allFrom_cons ?_ ?_
          · intro a_ w_ hk_
            have h13 : a_.eval (.tmp 13) = .pointer (some ⟨g13, 0, none⟩) := hk_.old 13 (by kernel_rfl)
            have hx_ := hk_.ext
            clear hk_
            refine flow_plain rfl ?_
            exact gives_ldC rfl h13 hax (blk_cells (hx.below hx_ hx.lt)) ⟨Below.refl _ _, rfl⟩
          refine allFrom_cons ?_ ?_
          · intro a_ w_ hk_
            have h62 : a_.eval (.tmp 62) = (.agg (h.map cb).toArray) := hk_.got 3 62 _ (by kernel_rfl) rfl rfl
            have h63 : a_.eval (.tmp 63) = (.agg (xs.map cb).toArray) := hk_.got 4 63 _ (by kernel_rfl) rfl rfl
            have hx_ := hk_.ext
            clear hk_
            refine flow_plain rfl ?_
            unfold gives
            have hc_ : ∀ v, a_.eval (.const v) = v := fun _ => rfl
            have hn_ : ∀ f, a_.eval (.func f) = .func (.func f) #[] #[] := fun _ => rfl
            generalize a_.eval = ρ_ at *
            go_simp
            exact (rNode_any w_ hhl hxs).mono fun e w' hh => ⟨_, hh.1, hh.2, rfl⟩
          exact allFrom_nil
        intro f_ w_ hx_ hf_
        have h59 : f_ 59 = (.slice (some ⟨b, off, none⟩) p c) := hf_ 0 59 _ (by decide) rfl rfl
        have h60 : f_ 60 = (.int .i64 (j : Int)) := hf_ 1 60 _ (by decide) rfl rfl
        have h61 : f_ 61 = (.pointer (some ⟨b, off + j * 32, none⟩)) := hf_ 2 61 _ (by decide) rfl rfl
        have h62 : f_ 62 = (.agg (h.map cb).toArray) := hf_ 3 62 _ (by decide) rfl rfl
        have h63 : f_ 63 = (.agg (xs.map cb).toArray) := hf_ 4 63 _ (by decide) rfl rfl
        have h64 : f_ 64 = (.agg ((nodeL h xs).map cb).toArray) := hf_ 5 64 _ (by decide) rfl rfl
        simp only [mix, List.drop_succ_cons, List.drop_zero, h59, h60, h61, h62, h63, h64]
        clear h59 h60 h61 h62 h63 h64
        clear hf_
        rename World => wz
        have hyz := hy.below hx_ hy.lt
        have hxz := hx.below hx_ hx.lt
        have hbz := HB.out.trans (hx_.mono HB.out.size)
        have hnl := nodeL_len h xs
        have hnl2 := nodeL_len h ys
        clear hx hy hx_
        generalize nodeL h xs = N at *
        go_wp2_with ((with_reducible refine wpAtC ?_); refine wpList_store_agg rfl _ _ _ rfl _ _ rfl (N.map cb).toArray rfl (aggHS hnl) hxz (by rw [List.size_toArray, List.size_toArray, List.length_map, List.length_map]; omega) (one_cbA N) ?_; intro w18 hp18; simp only [Act.put])
        rw [show spl (xs.map cb).toArray 0 (N.map cb).toArray.toList = (N.map cb).toArray from spl_whole (by rw [List.size_toArray, List.size_toArray, List.length_map, List.length_map]; omega)] at hp18
        have hy18 := hp18.other hyz (Ne.symm hne1)
        have hx18 := hp18.blk
        have hb18 := hbz.trans (hp18.below hg13)
        have hbl18 : b < w18.heap.size := by rw [hp18.size]; exact Nat.lt_of_lt_of_le hbB (bx_trans HB11.out hbz).size
        have HPC18 := hid (fun i v hv => (hb18.cell (p := ⟨b, off + j * 32 + i, none⟩) (Nat.lt_of_lt_of_le hbB HB11.out.size)).trans ((HPW.out i v hv)))
        clear hp18 hxz hyz hbz HB
        refine wp_flow (by kernel_rfl) [0, 0, 3, 7, 0, 31, 63] 6 [false, false, false, false, false, false, false, false, false, false, false, false, false, false, false, false, false, false, false, false, false, false, false, false, false, false, false, false, false, false, false, false, false, false, false, false, false, false, false, false, false, false, false, false, false, false, false, false, false, false, false, false, false, false, false, false, false, false, false, false, false, false, false, false, false, true, true, true, true, true, true] (by kernel_rfl) (by decide) (by kernel_rfl) [FP.eq (.slice (some ⟨b, off, none⟩) p c), FP.eq (.int .i64 (j : Int)), FP.eq (.pointer (some ⟨b, off + j * 32, none⟩)), FP.eq (.agg (h.map cb).toArray), FP.eq (.agg (ys.map cb).toArray), FP.eq (.agg ((nodeL h ys).map cb).toArray)] ?_ ?_
        · refine allFrom_cons ?_ ?_
          · intro a_ w_ hk_
            have h3 : a_.eval (.tmp 3) = .slice (some ⟨b, off, none⟩) p c := hk_.old 3 (by kernel_rfl)
            have hx_ := hk_.ext
            clear hk_
            refine flow_plain rfl ?_
            exact gives_move rfl ⟨Below.refl _ _, h3⟩
          refine allFrom_cons ?_ ?_
          · intro a_ w_ hk_
            have h15 : a_.eval (.tmp 15) = .int .i64 (j : Int) := hk_.old 15 (by kernel_rfl)
            have hx_ := hk_.ext
            clear hk_
            refine flow_plain rfl ?_
            exact gives_move rfl ⟨Below.refl _ _, h15⟩
          refine allFrom_cons ?_ ?_
          · intro a_ w_ hk_
            have h65 : a_.eval (.tmp 65) = (.slice (some ⟨b, off, none⟩) p c) := hk_.got 0 65 _ (by kernel_rfl) rfl rfl
            have h66 : a_.eval (.tmp 66) = (.int .i64 (j : Int)) := hk_.got 1 66 _ (by kernel_rfl) rfl rfl
            have hx_ := hk_.ext
            clear hk_
            refine flow_plain rfl ?_
            unfold gives
            have hc_ : ∀ v, a_.eval (.const v) = v := fun _ => rfl
            have hn_ : ∀ f, a_.eval (.func f) = .func (.func f) #[] #[] := fun _ => rfl
            generalize a_.eval = ρ_ at *
            go_simp
            exact ⟨Below.refl _ _, rfl⟩
          refine allFrom_cons ?_ ?_
          · intro a_ w_ hk_
            have h67 : a_.eval (.tmp 67) = (.pointer (some ⟨b, off + j * 32, none⟩)) := hk_.got 2 67 _ (by kernel_rfl) rfl rfl
            have hx_ := hk_.ext
            clear hk_
            refine flow_plain rfl ?_
            exact gives_ldC rfl h67 hah (fun i v hv => (hx_.cell (p := ⟨b, off + j * 32 + i, none⟩) hbl18).trans (HPC18.out i v hv)) ⟨Below.refl _ _, rfl⟩
          refine allFrom_cons ?_ ?_
          · intro a_ w_ hk_
            have h14 : a_.eval (.tmp 14) = .pointer (some ⟨g14, 0, none⟩) := hk_.old 14 (by kernel_rfl)
            have hx_ := hk_.ext
            clear hk_
            refine flow_plain rfl ?_
            exact gives_ldC rfl h14 hay (blk_cells (hy18.below hx_ hy18.lt)) ⟨Below.refl _ _, rfl⟩
          refine allFrom_cons ?_ ?_
          · intro a_ w_ hk_
            have h68 : a_.eval (.tmp 68) = (.agg (h.map cb).toArray) := hk_.got 3 68 _ (by kernel_rfl) rfl rfl
            have h69 : a_.eval (.tmp 69) = (.agg (ys.map cb).toArray) := hk_.got 4 69 _ (by kernel_rfl) rfl rfl
            have hx_ := hk_.ext
            clear hk_
            refine flow_plain rfl ?_
            unfold gives
            have hc_ : ∀ v, a_.eval (.const v) = v := fun _ => rfl
            have hn_ : ∀ f, a_.eval (.func f) = .func (.func f) #[] #[] := fun _ => rfl
            generalize a_.eval = ρ_ at *
            go_simp
            exact (rNode_any w_ hhl hys).mono fun e w' hh => ⟨_, hh.1, hh.2, rfl⟩
          exact allFrom_nil
        intro f_ w_ hx_ hf_
        have h65 : f_ 65 = (.slice (some ⟨b, off, none⟩) p c) := hf_ 0 65 _ (by decide) rfl rfl
        have h66 : f_ 66 = (.int .i64 (j : Int)) := hf_ 1 66 _ (by decide) rfl rfl
        have h67 : f_ 67 = (.pointer (some ⟨b, off + j * 32, none⟩)) := hf_ 2 67 _ (by decide) rfl rfl
        have h68 : f_ 68 = (.agg (h.map cb).toArray) := hf_ 3 68 _ (by decide) rfl rfl
        have h69 : f_ 69 = (.agg (ys.map cb).toArray) := hf_ 4 69 _ (by decide) rfl rfl
        have h70 : f_ 70 = (.agg ((nodeL h ys).map cb).toArray) := hf_ 5 70 _ (by decide) rfl rfl
        simp only [mix, List.drop_succ_cons, List.drop_zero, h65, h66, h67, h68, h69, h70]
        clear h65 h66 h67 h68 h69 h70
        clear hf_
        rename World => wv
        have hyv := hy18.below hx_ hy18.lt
        have hxv := hx18.below hx_ hx18.lt
        have hbv := hb18.trans (hx_.mono hb18.size)
        clear hx18 hy18 hb18 hx_
        generalize nodeL h ys = N2 at *
        go_wp2_with ((with_reducible refine wpAtC ?_); refine wpList_store_agg rfl _ _ _ rfl _ _ rfl (N2.map cb).toArray rfl (aggHS hnl2) hyv (by rw [List.size_toArray, List.size_toArray, List.length_map, List.length_map]; omega) (one_cbA N2) ?_; intro w19 hp19; simp only [Act.put])
        rw [show spl (ys.map cb).toArray 0 (N2.map cb).toArray.toList = (N2.map cb).toArray from spl_whole (by rw [List.size_toArray, List.size_toArray, List.length_map, List.length_map]; omega)] at hp19
        go_roundw
        case rel => exact ⟨j + 1, N, N2, by rw [List.length_reverse]; omega, HST.out.symm, by go_num, hp19.other hxv hne1, hp19.blk, hbv.trans (hp19.below hw14), hnl, hnl2⟩
        case measure => simp [intOf]; omega
    · have hjd : j = ds.length := by omega
      have hzl : (ds.reverse.zip rest).length = j := by rw [List.length_zip, List.length_reverse, HRL.out, hjd, Nat.min_self]
      have hfin : (xs, ys) = (X, Y) := by rw [hst, ← hzl, List.take_length]; exact HMD.out.symm
      injection hfin with e1 e2
      subst e1 e2
      clear hst HMD hzl
      have hjp : ¬ j < p := by omega
      have hz8 := hz811.below hbr hz811.lt
      have hz9 := hz911.below hbr hz911.lt
      have HF := hid (bx_trans HB11.out hbr)
      have hax := aggHL hxs
      have hay := aggHL hys
      have h8l := hz811.lt
      have hne1g : g14 ≠ g8 := by omega
      clear hbr hz811 hz911
      go_wp2_with fail
      refine wp_flowK (by kernel_rfl) [0, 0, 1, 7, 15] 3 [false, false, false, false, false, false, false, false, false, false, false, false, false, false, false, false, false, false, false, false, false, false, false, false, false, false, false, false, false, false, false, false, false, false, false, false, false, false, false, false, false, false, false, false, false, false, false, false, false, false, false, false, false, false, false, false, false, false, false, false, false, false, false, false, false, false, false, false, false, false, false, true, true] (by kernel_rfl) (by decide) (by kernel_rfl) [KP.eq (.agg (xs.map cb).toArray), KP.eq (.agg (ys.map cb).toArray), KP.any] [2] (fun ks w' => MK wo g8 xs ks w') ?_ ?_ ?_
      · simp only [List.map_cons, List.map_nil]
        exact rfl
      · refine allFrom_cons ?_ ?_
        · refine stepK_by (by decide) ?_
          intro f_ a_ w_ hM_ hk_
          have h13 : a_.eval (.tmp 13) = .pointer (some ⟨g13, 0, none⟩) := hk_.old 13 (by kernel_rfl)
          have k2 := hk_.later 2 _ (by kernel_rfl) rfl
          clear hk_
          refine flow_plain rfl ?_
          have hM := hM_
          simp only [List.map_cons, List.map_nil, k2] at hM
          exact gives_ldC rfl h13 hax (blk_cells (MK_blk hM hx (by omega))) ⟨hM_, rfl⟩
        refine allFrom_cons ?_ ?_
        · refine stepK_by (by decide) ?_
          intro f_ a_ w_ hM_ hk_
          have h14 : a_.eval (.tmp 14) = .pointer (some ⟨g14, 0, none⟩) := hk_.old 14 (by kernel_rfl)
          clear hk_
          refine flow_plain rfl ?_
          have hM := hM_
          simp only [List.map_cons, List.map_nil] at hM
          exact gives_ldC rfl h14 hay (blk_cells (MK_blk hM hy hne1g)) ⟨hM_, rfl⟩
        refine allFrom_cons ?_ ?_
        · intro f_ a_ w_ hM_ hk_
          have h8 : a_.eval (.tmp 8) = .pointer (some ⟨g8, 0, none⟩) := hk_.old 8 (by kernel_rfl)
          have h71 : a_.eval (.tmp 71) = (.agg (xs.map cb).toArray) := hk_.got 0 71 _ (by kernel_rfl) rfl rfl
          have k2 : f_ 2 = none := hk_.un
          clear hk_
          simp only [List.map_cons, List.map_nil, k2] at hM_
          simp only [List.map_cons, List.map_nil, upd_same]
          refine flow_plain rfl ?_
          have hw_ : w_ = wo.drew := hM_
          subst hw_
          exact gives_store_agg rfl h8 h71 (aggHS hxs) hz8 (szH hxs) (one_cbA xs) (fun w1 hp1 => ⟨by rw [splH hxs] at hp1; exact hp1, trivial⟩)
        exact allFrom_nil
      intro f_ y_ w_ hM_ hf_ hd_
      have h71 : f_ 71 = (.agg (xs.map cb).toArray) := (hf_ 0 71 _ (by decide) rfl rfl).1
      have h72 : f_ 72 = (.agg (ys.map cb).toArray) := (hf_ 1 72 _ (by decide) rfl rfl).1
      obtain ⟨x2, k2⟩ := hd_ 2 (by decide)
      simp only [List.map_cons, List.map_nil, k2] at hM_
      simp only [mix, List.drop_succ_cons, List.drop_zero, h71, h72]
      clear hf_ hd_ h71 h72 k2
      have hp17 : Put wo.drew w_ g8 tH (xs.map cb).toArray := hM_
      have hz918 := hp17.other (show Blk wo.drew g9 tH _ from hz9) (Ne.symm hne89)
      go_wp2_with ((with_reducible refine wpAtC ?_); refine wpList_store_agg rfl _ _ _ rfl _ _ rfl (ys.map cb).toArray rfl (aggHS hys) hz918 (szH hys) (one_cbA ys) ?_; intro w18 hp18; simp only [Act.put]; rw [splH hys] at hp18)
      have hA := hp18.other hp17.blk hne89
      exact bodyPost_ret (results_agg3 rfl rfl rfl hax hay (blk_cells hA) (blk_cells hp18.blk)) rfl ⟨rfl, bx_put (bx_put HF.out.drew hp17 hw8) hp18 hw9⟩

set_option maxRecDepth 10000 in
set_option maxHeartbeats 4000000 in
theorem rMade_N (w : World) (m n p c : Nat) (A : Option Addr) (old : List UInt8) (path : List (List UInt8)) (hpl : path.length = p) (h1 : 1 ≤ m) (h2 : m ≤ n) (hn : n < 18446744073709551616) (ho : old.length = 32) (hpa : ∀ x ∈ path, x.length = 32) (hr : Rd w w.heap.size A (path.flatten.map cb)) (hc : p ≤ c) (hlong : p = longN m n) (hwh : wholeN m n = false) :
    Calls Tryd.prog 18 #[.int .u64 (m : Int), .int .u64 (n : Int), .agg (old.map cb).toArray, .slice A p c] w fun e w' => e = .returned (.tuple #[.agg ((madeL m n old path).1.map cb).toArray, .agg ((madeL m n old path).2.map cb).toArray, .bool true]) ∧ Below w.heap.size w w' := by
  have hlo := longN_eq h1 h2
  have hle65 := longN_le h1 h2 hn
  have hmd : madeL m n old path = madeL m n old path := rfl
  conv at hmd => rhs; unfold madeL
  have HS := hid (fun w' => rsteps_any w' m n h1 h2 hn)
  have HLG := hid (fun w' => rLong_any w' m n (by omega) hn)
  rw [← hlong] at HLG
  rw [hwh] at hlo hmd HS
  generalize madeL m n old path = XY at *
  obtain ⟨X, Y⟩ := XY
  obtain ⟨ds, hds⟩ : ∃ ds, ds = steps m n := ⟨_, rfl⟩
  rw [← hds] at hlo hmd HS
  simp only [Bool.false_eq_true, ↓reduceIte] at hlo hmd
  have hne : path ≠ [] := by intro h0; rw [h0] at hpl; simp at hpl; omega
  obtain ⟨x0, rest, rfl⟩ := List.exists_cons_of_ne_nil hne
  rw [List.getD_cons_zero, List.drop_succ_cons, List.drop_zero] at hmd
  have hrl : rest.length = ds.length := by simp at hpl; omega
  have hrk : ∀ y ∈ rest, y.length = 32 := fun y hy => hpa y (List.mem_cons_of_mem _ hy)
  have hxl : x0.length = 32 := hpa x0 List.mem_cons_self
  clear hne
  unfold mfold at hmd
  have hdl : ds.length ≤ 65 := by omega
  have hpd : p = ds.length + 1 := by omega
  have HMD := hid hmd
  have HRL := hid hrl
  have HRK := hid hrk
  have HRR := hid hr
  have HPA := hid hpa
  have HPL := hid hpl
  have HPD := hid hpd
  have hp65 : p ≤ 65 := by omega
  have hpd1 : p ≤ ds.length + 1 := by omega
  have hpd2 : ds.length + 1 ≤ p := by omega
  have hds1 : 1 ≤ ds.length := by
    rcases Nat.lt_or_ge m n with h | h
    · rw [hds]; exact steps_pos h1 h
    · exfalso; rw [whole_no (by omega)] at hwh; cases hwh
  have hc1 : ¬ c = 1 := by omega
  clear hpd hds hmd hrl hrk hr hpa hpl hlo hlong hwh hle65
  have hA : Blk (w.alloc (.cells (old.map cb).toArray tH)) w.heap.size tH (old.map cb).toArray := Blk.new w _ _
  have hb0 : Below w.heap.size w (w.alloc (.cells (old.map cb).toArray tH)) := bx_alloc (Below.refl _ _) _
  go_enter Tryd.func18, Tryd.ntmps18
  go_wp2_with (first
    | ((with_reducible refine wpAtC ?_); refine wpList_alloc (w := w.alloc (.cells (old.map cb).toArray tH)) rfl _ rfl zeroH ?_; intro g8 w8 hg8 hg8' hz8 hb8; simp only [Act.put, List.setIfInBounds_toArray, List.set_cons_succ, List.set_cons_zero])
    | ((with_reducible refine wpAtC ?_); refine wpList_alloc (w := w8) rfl _ rfl zeroH ?_; intro g9 w9 hg9 hg9' hz9 hb9; simp only [Act.put, List.setIfInBounds_toArray, List.set_cons_succ, List.set_cons_zero]))
  have hz89 := hz8.below hb9 hg8'
  have hA9 := (hA.below hb8 hA.lt).below hb9 (Nat.lt_of_lt_of_le hA.lt hb8.size)
  have hb09 := bx_trans (bx_trans hb0 hb8) hb9
  have hne89 : g8 ≠ g9 := by omega
  have hw8 : w.heap.size ≤ g8 := Nat.le_trans hb0.size hg8
  have hw9 : w.heap.size ≤ g9 := by omega
  obtain ⟨g6, hg6⟩ : ∃ g6, g6 = w.heap.size := ⟨_, rfl⟩
  rw [← hg6] at hA9 ⊢
  clear hz8 hb8 hb9 hb0 hA hg6
  refine (HS.out w9).mono ?_
  rintro e w10 ⟨v, rfl, hown, hb10⟩
  obtain ⟨AD, cD, rfl, _, _, _⟩ := own_form hown
  have HO10 := hid hown
  have hz8 := hz89.below hb10 hz89.lt
  have hz9' := hz9.below hb10 hz9.lt
  have hA10 := hA9.below hb10 hA9.lt
  have hb010 := bx_trans hb09 hb10
  clear hown hz89 hz9 hb09 hb10 hA9
  go_wp2_with fail
  refine (HLG.out w10).mono ?_
  rintro e w11 ⟨rfl, hb11⟩
  have hz811 := hz8.below hb11 hz8.lt
  have hz911 := hz9'.below hb11 hz9'.lt
  have hA11 := hA10.below hb11 hA10.lt
  have HB11 := hid (bx_trans hb010 hb11)
  have HO11 := hid (own_keep HO10.out hb11)
  have hao := aggHL ho
  have hcA := blk_cells hA11
  clear hz8 hz9' hb010 hb11 hA10 HO10
  have hk0 : 0 < ((x0 :: rest).flatten.map cb).length := by rw [List.length_map, hs_len HPA.out]; simp
  obtain ⟨b, off, hAb, hbB, hd0⟩ := HRR.out.at_ hk0
  subst hAb
  obtain ⟨_, hp0⟩ := rd_hash HRR.out HPA.out 0 (by simp)
  rw [List.getElem_cons_zero, Nat.zero_mul, Nat.add_zero] at hp0
  have hp1 : 0 < p := by have := HPD.out; omega
  have hp1i : (1 : Int) ≤ (p : Int) := by omega
  have hax0 := aggHL hxl
  have hwz : w.heap.size ≤ w11.heap.size := HB11.out.size
  have HP0 := hid hp0
  clear hd0 hk0 hp0
  go_wp2_with (first
    | ((with_reducible refine wpAtC ?_); refine wpList_loadG rfl _ _ rfl _ _ rfl (old.map cb) hao hcA ?_; simp only [Act.put, List.setIfInBounds_toArray, List.set_cons_succ, List.set_cons_zero])
    | ((with_reducible refine wpAtC ?_); refine wpList_alloc (w := w11) rfl _ rfl zeroH ?_; intro g13 w13 hg13 hg13' hz13 hb13; simp only [Act.put, List.setIfInBounds_toArray, List.set_cons_succ, List.set_cons_zero])
    | ((with_reducible refine wpAtC ?_); refine wpList_store_agg rfl _ _ _ rfl _ _ rfl (old.map cb).toArray rfl (aggHS ho) hz13 (szH ho) (one_cbA old) ?_; intro w14 hp14; simp only [Act.put]; rw [splH ho] at hp14; have hx14 := hp14.blk; have hb14 := hb13.trans (hp14.below hg13); have hq14 := fun j v hv => ((bx_trans HB11.out hb14).cell (p := ⟨b, off + j, none⟩) hbB).trans (HP0.out j v hv))
    | ((with_reducible refine wpAtC ?_); refine wpList_loadG rfl _ _ rfl _ _ rfl (x0.map cb) hax0 hq14 ?_; simp only [Act.put, List.setIfInBounds_toArray, List.set_cons_succ, List.set_cons_zero])
    | ((with_reducible refine wpAtC ?_); refine wpList_store_agg rfl _ _ _ rfl _ _ rfl (x0.map cb).toArray rfl (aggHS hxl) hx14 (by rw [List.size_toArray, List.size_toArray, List.length_map, List.length_map]; omega) (one_cbA x0) ?_; intro w20 hp20; simp only [Act.put]; rw [show spl (old.map cb).toArray 0 (x0.map cb).toArray.toList = (x0.map cb).toArray from spl_whole (by rw [List.size_toArray, List.size_toArray, List.length_map, List.length_map]; omega)] at hp20; have hx20 := hp20.blk; have hcx := blk_cells hx20)
    | ((with_reducible refine wpAtC ?_); refine wpList_loadG rfl _ _ rfl _ _ rfl (x0.map cb) hax0 hcx ?_; simp only [Act.put, List.setIfInBounds_toArray, List.set_cons_succ, List.set_cons_zero])
    | ((with_reducible refine wpAtC ?_); refine wpList_alloc (w := w20) rfl _ rfl zeroH ?_; intro g14 w15 hg14 hg14' hz15 hb15; simp only [Act.put, List.setIfInBounds_toArray, List.set_cons_succ, List.set_cons_zero])
    | ((with_reducible refine wpAtC ?_); refine wpList_store_agg rfl _ _ _ rfl _ _ rfl (x0.map cb).toArray rfl (aggHS hxl) hz15 (szH hxl) (one_cbA x0) ?_; intro w16 hp16; simp only [Act.put]; rw [splH hxl] at hp16))
  have hb20 := hb14.trans (hp20.below hg13)
  have hb16 := (hb20.trans (hb15.mono hb20.size)).trans (hp16.below (Nat.le_trans hb20.size hg14))
  have hy16 := hp16.blk
  have hne1 : g13 ≠ g14 := by have := hx20.lt; omega
  have hx16 := hp16.other (hx20.below hb15 hx20.lt) hne1
  have hw14 : w11.heap.size ≤ g14 := Nat.le_trans hb20.size hg14
  have HPATH := hid (show ∀ j (hj : j < rest.length), b < w.heap.size ∧ ∀ k v, (rest[j].map cb)[k]? = some v → w.cell? ⟨b, off + (j + 1) * 32 + k, none⟩ = some v from fun j hj => by
    obtain ⟨q1, q2⟩ := rd_hash HRR.out HPA.out (j + 1) (by simp; exact hj)
    rw [List.getElem_cons_succ] at q2
    exact ⟨q1, q2⟩)
  clear hp14 hb13 hz13 hb14 hp16 hb15 hz15 hx14 hcx hcA hA11 hq14 hp20 hx20 hb20 HP0
  go_loopw [15] (fun v15 wr => MRel ds.reverse rest x0 g13 g14 w11 v15 wr) (fun v15 _ => ds.length - (intOf v15).toNat)
  case atStart => exact ⟨0, x0, x0, by omega, by rw [List.take_zero]; rfl, rfl, hx16, hy16, hb16, hxl, hxl⟩
  case round =>
    obtain ⟨j, xs, ys, hj, hst, rfl, hx, hy, hbr, hxs, hys⟩ := hrel
    rw [List.length_reverse] at hj
    clear hx16 hy16 hb16
    rename World => wo
    by_cases hlt : j < ds.length
    · have hjr : j < rest.length := by rw [HRL.out]; exact hlt
      have hjr2 : j < ds.reverse.length := by rw [List.length_reverse]; exact hlt
      have hzl : j < (ds.reverse.zip rest).length := by rw [List.length_zip, List.length_reverse, HRL.out]; omega
      obtain ⟨k, hk⟩ : ∃ k : Nat, k = ds.length - 1 - j := ⟨_, rfl⟩
      have hkl : k < ds.length := by omega
      have htk : ((ds.reverse.zip rest).take (j + 1)).foldl mstep (x0, x0) = mstep (xs, ys) (ds[k], rest[j]) := by
        rw [List.take_succ_eq_append_getElem hzl, List.foldl_append, ← hst]
        simp only [List.getElem_zip, List.getElem_reverse, List.foldl_cons, List.foldl_nil]
        congr 2
        simp only [hk]
      have hhl := HRK.out _ (List.getElem_mem hjr)
      obtain ⟨_, hpw⟩ := HPATH.out j hjr
      rw [show off + (j + 1) * 32 = off + 32 + j * 32 by omega] at hpw
      have HPW := hid (fun i v hv => ((HB11.out.cell (p := ⟨b, off + 32 + j * 32 + i, none⟩) hbB)).trans (hpw i v hv))
      have hpc := fun i v hv => (hbr.cell (p := ⟨b, off + 32 + j * 32 + i, none⟩) (Nat.lt_of_lt_of_le hbB HB11.out.size)).trans (HPW.out i v hv)
      clear hpw
      obtain ⟨gD, capD, heD, _, hgD, _, _⟩ := own_block HO11.out (by omega)
      injection heD with heD _ heD2
      subst heD heD2
      have hcD : wo.cell? ⟨gD, k, none⟩ = some (.bool ds[k]) := by
        obtain ⟨b', off', he, _, hc'⟩ := (own_rd HO11.out).at_ (k := k) (by rw [List.length_map]; exact hkl)
        injection he with he
        injection he with e1 e2
        subst e1 e2
        have := hc' k (bv ds[k]) (by rw [List.getElem?_map, List.getElem?_eq_getElem hkl]; rfl)
        rw [Nat.zero_add] at this
        exact (hbr.cell (p := ⟨gD, k, none⟩) hgD).trans this
      generalize rest[j] = h at *
      have HST := hid htk
      have HST0 := hid hst
      obtain ⟨q1, hq1⟩ : ∃ q : Nat, q = ds.length - 1 := ⟨_, rfl⟩
      have e1 : (ds.length : Int) - 1 = (q1 : Int) := by omega
      have e2 : (q1 : Int) - (j : Int) = (k : Int) := by omega
      have hjp : j < (p - 1) := by omega
      have hah := aggHL hhl
      have hax := aggHL hxs
      have hay := aggHL hys
      have HB := hid hbr
      have HPC := hid hpc
      have hblw : b < wo.heap.size := Nat.lt_of_lt_of_le hbB (bx_trans HB11.out hbr).size
      have HMD2 := HMD
      clear htk hst hq1 hk hpc hbr
      generalize hdk : ds[k] = d at *
      have HDK := hid hdk
      clear hdk
      cases d with
      | true =>
        have hms : mstep (xs, ys) (true, h) = (xs, nodeL ys h) := rfl
        rw [hms] at HST
        clear hms
        go_wp2_with fail
        clear hcD e1 e2
        refine wp_flow (by kernel_rfl) [0, 0, 0, 6, 14, 31, 63] 6 [false, false, false, false, false, false, false, false, false, false, false, false, false, false, false, false, false, false, false, false, false, false, false, false, false, false, false, false, false, false, false, false, false, false, false, false, false, false, false, false, false, false, false, false, false, false, false, false, false, false, false, false, false, true, true, true, true, true, true] (by kernel_rfl) (by decide) (by kernel_rfl) [FP.eq (.agg (ys.map cb).toArray), FP.eq (.slice (some ⟨b, off + 32, none⟩) (p - 1) (c - 1)), FP.eq (.int .i64 (j : Int)), FP.eq (.pointer (some ⟨b, off + 32 + j * 32, none⟩)), FP.eq (.agg (h.map cb).toArray), FP.eq (.agg ((nodeL ys h).map cb).toArray)] ?_ ?_
        · refine allFrom_cons ?_ ?_
          · intro a_ w_ hk_
            have h14 : a_.eval (.tmp 14) = .pointer (some ⟨g14, 0, none⟩) := hk_.old 14 (by kernel_rfl)
            have hx_ := hk_.ext
            clear hk_
            refine flow_plain rfl ?_
            exact gives_ldC rfl h14 hay (blk_cells (hy.below hx_ hy.lt)) ⟨Below.refl _ _, rfl⟩
          refine allFrom_cons ?_ ?_
          · intro a_ w_ hk_
            have h3 : a_.eval (.tmp 3) = .slice (some ⟨b, off + 32, none⟩) (p - 1) (c - 1) := hk_.old 3 (by kernel_rfl)
            have hx_ := hk_.ext
            clear hk_
            refine flow_plain rfl ?_
            exact gives_move rfl ⟨Below.refl _ _, h3⟩
          refine allFrom_cons ?_ ?_
          · intro a_ w_ hk_
            have h15 : a_.eval (.tmp 15) = .int .i64 (j : Int) := hk_.old 15 (by kernel_rfl)
            have hx_ := hk_.ext
            clear hk_
            refine flow_plain rfl ?_
            exact gives_move rfl ⟨Below.refl _ _, h15⟩
          refine allFrom_cons ?_ ?_
          · intro a_ w_ hk_
            have h54 : a_.eval (.tmp 54) = (.slice (some ⟨b, off + 32, none⟩) (p - 1) (c - 1)) := hk_.got 1 54 _ (by kernel_rfl) rfl rfl
            have h55 : a_.eval (.tmp 55) = (.int .i64 (j : Int)) := hk_.got 2 55 _ (by kernel_rfl) rfl rfl
            have hx_ := hk_.ext
            clear hk_
            refine flow_plain rfl ?_
            unfold gives
            have hc_ : ∀ v, a_.eval (.const v) = v := fun _ => rfl
            have hn_ : ∀ f, a_.eval (.func f) = .func (.func f) #[] #[] := fun _ => rfl
            generalize a_.eval = ρ_ at *
            go_simp
            exact ⟨Below.refl _ _, rfl⟩
          refine allFrom_cons ?_ ?_
          · intro a_ w_ hk_
            have h56 : a_.eval (.tmp 56) = (.pointer (some ⟨b, off + 32 + j * 32, none⟩)) := hk_.got 3 56 _ (by kernel_rfl) rfl rfl
            have hx_ := hk_.ext
            clear hk_
            refine flow_plain rfl ?_
            exact gives_ldC rfl h56 hah (fun i v hv => (hx_.cell (p := ⟨b, off + 32 + j * 32 + i, none⟩) hblw).trans (HPC.out i v hv)) ⟨Below.refl _ _, rfl⟩
          refine allFrom_cons ?_ ?_
          · intro a_ w_ hk_
            have h53 : a_.eval (.tmp 53) = (.agg (ys.map cb).toArray) := hk_.got 0 53 _ (by kernel_rfl) rfl rfl
            have h57 : a_.eval (.tmp 57) = (.agg (h.map cb).toArray) := hk_.got 4 57 _ (by kernel_rfl) rfl rfl
            have hx_ := hk_.ext
            clear hk_
            refine flow_plain rfl ?_
            unfold gives
            have hc_ : ∀ v, a_.eval (.const v) = v := fun _ => rfl
            have hn_ : ∀ f, a_.eval (.func f) = .func (.func f) #[] #[] := fun _ => rfl
            generalize a_.eval = ρ_ at *
            go_simp
            exact (rNode_any w_ hys hhl).mono fun e w' hh => ⟨_, hh.1, hh.2, rfl⟩
          exact allFrom_nil
        intro f_ w_ hx_ hf_
        have h53 : f_ 53 = (.agg (ys.map cb).toArray) := hf_ 0 53 _ (by decide) rfl rfl
        have h54 : f_ 54 = (.slice (some ⟨b, off + 32, none⟩) (p - 1) (c - 1)) := hf_ 1 54 _ (by decide) rfl rfl
        have h55 : f_ 55 = (.int .i64 (j : Int)) := hf_ 2 55 _ (by decide) rfl rfl
        have h56 : f_ 56 = (.pointer (some ⟨b, off + 32 + j * 32, none⟩)) := hf_ 3 56 _ (by decide) rfl rfl
        have h57 : f_ 57 = (.agg (h.map cb).toArray) := hf_ 4 57 _ (by decide) rfl rfl
        have h58 : f_ 58 = (.agg ((nodeL ys h).map cb).toArray) := hf_ 5 58 _ (by decide) rfl rfl
        simp only [mix, List.drop_succ_cons, List.drop_zero, h53, h54, h55, h56, h57, h58]
        clear h53 h54 h55 h56 h57 h58
        clear hf_
        rename World => wz
        have hyz := hy.below hx_ hy.lt
        have hxz := hx.below hx_ hx.lt
        have hbz := HB.out.trans (hx_.mono HB.out.size)
        have hnl := nodeL_len ys h
        clear hx hy hx_ HB
        generalize nodeL ys h = N at *
        go_wp2_with ((with_reducible refine wpAtC ?_); refine wpList_store_agg rfl _ _ _ rfl _ _ rfl (N.map cb).toArray rfl (aggHS hnl) hyz (by rw [List.size_toArray, List.size_toArray, List.length_map, List.length_map]; omega) (one_cbA N) ?_; intro w18 hp18; simp only [Act.put])
        rw [show spl (ys.map cb).toArray 0 (N.map cb).toArray.toList = (N.map cb).toArray from spl_whole (by rw [List.size_toArray, List.size_toArray, List.length_map, List.length_map]; omega)] at hp18
        go_roundw
        case rel => exact ⟨j + 1, xs, N, by rw [List.length_reverse]; omega, HST.out.symm, by go_num, hp18.other hxz hne1, hp18.blk, hbz.trans (hp18.below hw14), hxs, hnl⟩
        case measure => simp [intOf]; omega
      | false =>
        have hms : mstep (xs, ys) (false, h) = (nodeL h xs, nodeL h ys) := rfl
        rw [hms] at HST
        clear hms
        go_wp2_with fail
        clear hcD e1 e2
        refine wp_flow (by kernel_rfl) [0, 0, 3, 7, 0, 31, 63] 6 [false, false, false, false, false, false, false, false, false, false, false, false, false, false, false, false, false, false, false, false, false, false, false, false, false, false, false, false, false, false, false, false, false, false, false, false, false, false, false, false, false, false, false, false, false, false, false, false, false, false, false, false, false, false, false, false, false, false, false, true, true, true, true, true, true] (by kernel_rfl) (by decide) (by kernel_rfl) [FP.eq (.slice (some ⟨b, off + 32, none⟩) (p - 1) (c - 1)), FP.eq (.int .i64 (j : Int)), FP.eq (.pointer (some ⟨b, off + 32 + j * 32, none⟩)), FP.eq (.agg (h.map cb).toArray), FP.eq (.agg (xs.map cb).toArray), FP.eq (.agg ((nodeL h xs).map cb).toArray)] ?_ ?_
        · refine allFrom_cons ?_ ?_
          · intro a_ w_ hk_
            have h3 : a_.eval (.tmp 3) = .slice (some ⟨b, off + 32, none⟩) (p - 1) (c - 1) := hk_.old 3 (by kernel_rfl)
            have hx_ := hk_.ext
            clear hk_
            refine flow_plain rfl ?_
            exact gives_move rfl ⟨Below.refl _ _, h3⟩
          refine allFrom_cons ?_ ?_
          · intro a_ w_ hk_
            have h15 : a_.eval (.tmp 15) = .int .i64 (j : Int) := hk_.old 15 (by kernel_rfl)
            have hx_ := hk_.ext
            clear hk_
            refine flow_plain rfl ?_
            exact gives_move rfl ⟨Below.refl _ _, h15⟩
          refine allFrom_cons ?_ ?_
          · intro a_ w_ hk_
            have h59 : a_.eval (.tmp 59) = (.slice (some ⟨b, off + 32, none⟩) (p - 1) (c - 1)) := hk_.got 0 59 _ (by kernel_rfl) rfl rfl
            have h60 : a_.eval (.tmp 60) = (.int .i64 (j : Int)) := hk_.got 1 60 _ (by kernel_rfl) rfl rfl
            have hx_ := hk_.ext
            clear hk_
            refine flow_plain rfl ?_
            unfold gives
            have hc_ : ∀ v, a_.eval (.const v) = v := fun _ => rfl
            have hn_ : ∀ f, a_.eval (.func f) = .func (.func f) #[] #[] := fun _ => rfl
            generalize a_.eval = ρ_ at *
            go_simp
            exact ⟨Below.refl _ _, rfl⟩
          refine allFrom_cons ?_ ?_
          · intro a_ w_ hk_
            have h61 : a_.eval (.tmp 61) = (.pointer (some ⟨b, off + 32 + j * 32, none⟩)) := hk_.got 2 61 _ (by kernel_rfl) rfl rfl
            have hx_ := hk_.ext
            clear hk_
            refine flow_plain rfl ?_
            exact gives_ldC rfl h61 hah (fun i v hv => (hx_.cell (p := ⟨b, off + 32 + j * 32 + i, none⟩) hblw).trans (HPC.out i v hv)) ⟨Below.refl _ _, rfl⟩
          refine allFrom_cons ?_ ?_
          · intro a_ w_ hk_
            have h13 : a_.eval (.tmp 13) = .pointer (some ⟨g13, 0, none⟩) := hk_.old 13 (by kernel_rfl)
            have hx_ := hk_.ext
            clear hk_
            refine flow_plain rfl ?_
            exact gives_ldC rfl h13 hax (blk_cells (hx.below hx_ hx.lt)) ⟨Below.refl _ _, rfl⟩
          refine allFrom_cons ?_ ?_
          · intro a_ w_ hk_
            have h62 : a_.eval (.tmp 62) = (.agg (h.map cb).toArray) := hk_.got 3 62 _ (by kernel_rfl) rfl rfl
            have h63 : a_.eval (.tmp 63) = (.agg (xs.map cb).toArray) := hk_.got 4 63 _ (by kernel_rfl) rfl rfl
            have hx_ := hk_.ext
            clear hk_
            refine flow_plain rfl ?_
            unfold gives
            have hc_ : ∀ v, a_.eval (.const v) = v := fun _ => rfl
            have hn_ : ∀ f, a_.eval (.func f) = .func (.func f) #[] #[] := fun _ => rfl
            generalize a_.eval = ρ_ at *
            go_simp
            exact (rNode_any w_ hhl hxs).mono fun e w' hh => ⟨_, hh.1, hh.2, rfl⟩
          exact allFrom_nil
        intro f_ w_ hx_ hf_
        have h59 : f_ 59 = (.slice (some ⟨b, off + 32, none⟩) (p - 1) (c - 1)) := hf_ 0 59 _ (by decide) rfl rfl
        have h60 : f_ 60 = (.int .i64 (j : Int)) := hf_ 1 60 _ (by decide) rfl rfl
        have h61 : f_ 61 = (.pointer (some ⟨b, off + 32 + j * 32, none⟩)) := hf_ 2 61 _ (by decide) rfl rfl
        have h62 : f_ 62 = (.agg (h.map cb).toArray) := hf_ 3 62 _ (by decide) rfl rfl
        have h63 : f_ 63 = (.agg (xs.map cb).toArray) := hf_ 4 63 _ (by decide) rfl rfl
        have h64 : f_ 64 = (.agg ((nodeL h xs).map cb).toArray) := hf_ 5 64 _ (by decide) rfl rfl
        simp only [mix, List.drop_succ_cons, List.drop_zero, h59, h60, h61, h62, h63, h64]
        clear h59 h60 h61 h62 h63 h64
        clear hf_
        rename World => wz
        have hyz := hy.below hx_ hy.lt
        have hxz := hx.below hx_ hx.lt
        have hbz := HB.out.trans (hx_.mono HB.out.size)
        have hnl := nodeL_len h xs
        have hnl2 := nodeL_len h ys
        clear hx hy hx_
        generalize nodeL h xs = N at *
        go_wp2_with ((with_reducible refine wpAtC ?_); refine wpList_store_agg rfl _ _ _ rfl _ _ rfl (N.map cb).toArray rfl (aggHS hnl) hxz (by rw [List.size_toArray, List.size_toArray, List.length_map, List.length_map]; omega) (one_cbA N) ?_; intro w18 hp18; simp only [Act.put])
        rw [show spl (xs.map cb).toArray 0 (N.map cb).toArray.toList = (N.map cb).toArray from spl_whole (by rw [List.size_toArray, List.size_toArray, List.length_map, List.length_map]; omega)] at hp18
        have hy18 := hp18.other hyz (Ne.symm hne1)
        have hx18 := hp18.blk
        have hb18 := hbz.trans (hp18.below hg13)
        have hbl18 : b < w18.heap.size := by rw [hp18.size]; exact Nat.lt_of_lt_of_le hbB (bx_trans HB11.out hbz).size
        have HPC18 := hid (fun i v hv => (hb18.cell (p := ⟨b, off + 32 + j * 32 + i, none⟩) (Nat.lt_of_lt_of_le hbB HB11.out.size)).trans ((HPW.out i v hv)))
        clear hp18 hxz hyz hbz HB
        refine wp_flow (by kernel_rfl) [0, 0, 3, 7, 0, 31, 63] 6 [false, false, false, false, false, false, false, false, false, false, false, false, false, false, false, false, false, false, false, false, false, false, false, false, false, false, false, false, false, false, false, false, false, false, false, false, false, false, false, false, false, false, false, false, false, false, false, false, false, false, false, false, false, false, false, false, false, false, false, false, false, false, false, false, false, true, true, true, true, true, true] (by kernel_rfl) (by decide) (by kernel_rfl) [FP.eq (.slice (some ⟨b, off + 32, none⟩) (p - 1) (c - 1)), FP.eq (.int .i64 (j : Int)), FP.eq (.pointer (some ⟨b, off + 32 + j * 32, none⟩)), FP.eq (.agg (h.map cb).toArray), FP.eq (.agg (ys.map cb).toArray), FP.eq (.agg ((nodeL h ys).map cb).toArray)] ?_ ?_
        · refine allFrom_cons ?_ ?_
          · intro a_ w_ hk_
            have h3 : a_.eval (.tmp 3) = .slice (some ⟨b, off + 32, none⟩) (p - 1) (c - 1) := hk_.old 3 (by kernel_rfl)
            have hx_ := hk_.ext
            clear hk_
            refine flow_plain rfl ?_
            exact gives_move rfl ⟨Below.refl _ _, h3⟩
          refine allFrom_cons ?_ ?_
          · intro a_ w_ hk_
            have h15 : a_.eval (.tmp 15) = .int .i64 (j : Int) := hk_.old 15 (by kernel_rfl)
            have hx_ := hk_.ext
            clear hk_
            refine flow_plain rfl ?_
            exact gives_move rfl ⟨Below.refl _ _, h15⟩
          refine allFrom_cons ?_ ?_
          · intro a_ w_ hk_
            have h65 : a_.eval (.tmp 65) = (.slice (some ⟨b, off + 32, none⟩) (p - 1) (c - 1)) := hk_.got 0 65 _ (by kernel_rfl) rfl rfl
            have h66 : a_.eval (.tmp 66) = (.int .i64 (j : Int)) := hk_.got 1 66 _ (by kernel_rfl) rfl rfl
            have hx_ := hk_.ext
            clear hk_
            refine flow_plain rfl ?_
            unfold gives
            have hc_ : ∀ v, a_.eval (.const v) = v := fun _ => rfl
            have hn_ : ∀ f, a_.eval (.func f) = .func (.func f) #[] #[] := fun _ => rfl
            generalize a_.eval = ρ_ at *
            go_simp
            exact ⟨Below.refl _ _, rfl⟩
          refine allFrom_cons ?_ ?_
          · intro a_ w_ hk_
            have h67 : a_.eval (.tmp 67) = (.pointer (some ⟨b, off + 32 + j * 32, none⟩)) := hk_.got 2 67 _ (by kernel_rfl) rfl rfl
            have hx_ := hk_.ext
            clear hk_
            refine flow_plain rfl ?_
            exact gives_ldC rfl h67 hah (fun i v hv => (hx_.cell (p := ⟨b, off + 32 + j * 32 + i, none⟩) hbl18).trans (HPC18.out i v hv)) ⟨Below.refl _ _, rfl⟩
          refine allFrom_cons ?_ ?_
          · intro a_ w_ hk_
            have h14 : a_.eval (.tmp 14) = .pointer (some ⟨g14, 0, none⟩) := hk_.old 14 (by kernel_rfl)
            have hx_ := hk_.ext
            clear hk_
            refine flow_plain rfl ?_
            exact gives_ldC rfl h14 hay (blk_cells (hy18.below hx_ hy18.lt)) ⟨Below.refl _ _, rfl⟩
          refine allFrom_cons ?_ ?_
          · intro a_ w_ hk_
            have h68 : a_.eval (.tmp 68) = (.agg (h.map cb).toArray) := hk_.got 3 68 _ (by kernel_rfl) rfl rfl
            have h69 : a_.eval (.tmp 69) = (.agg (ys.map cb).toArray) := hk_.got 4 69 _ (by kernel_rfl) rfl rfl
            have hx_ := hk_.ext
            clear hk_
            refine flow_plain rfl ?_
            unfold gives
            have hc_ : ∀ v, a_.eval (.const v) = v := fun _ => rfl
            have hn_ : ∀ f, a_.eval (.func f) = .func (.func f) #[] #[] := fun _ => rfl
            generalize a_.eval = ρ_ at *
            go_simp
            exact (rNode_any w_ hhl hys).mono fun e w' hh => ⟨_, hh.1, hh.2, rfl⟩
          exact allFrom_nil
        intro f_ w_ hx_ hf_
        have h65 : f_ 65 = (.slice (some ⟨b, off + 32, none⟩) (p - 1) (c - 1)) := hf_ 0 65 _ (by decide) rfl rfl
        have h66 : f_ 66 = (.int .i64 (j : Int)) := hf_ 1 66 _ (by decide) rfl rfl
        have h67 : f_ 67 = (.pointer (some ⟨b, off + 32 + j * 32, none⟩)) := hf_ 2 67 _ (by decide) rfl rfl
        have h68 : f_ 68 = (.agg (h.map cb).toArray) := hf_ 3 68 _ (by decide) rfl rfl
        have h69 : f_ 69 = (.agg (ys.map cb).toArray) := hf_ 4 69 _ (by decide) rfl rfl
        have h70 : f_ 70 = (.agg ((nodeL h ys).map cb).toArray) := hf_ 5 70 _ (by decide) rfl rfl
        simp only [mix, List.drop_succ_cons, List.drop_zero, h65, h66, h67, h68, h69, h70]
        clear h65 h66 h67 h68 h69 h70
        clear hf_
        rename World => wv
        have hyv := hy18.below hx_ hy18.lt
        have hxv := hx18.below hx_ hx18.lt
        have hbv := hb18.trans (hx_.mono hb18.size)
        clear hx18 hy18 hb18 hx_
        generalize nodeL h ys = N2 at *
        go_wp2_with ((with_reducible refine wpAtC ?_); refine wpList_store_agg rfl _ _ _ rfl _ _ rfl (N2.map cb).toArray rfl (aggHS hnl2) hyv (by rw [List.size_toArray, List.size_toArray, List.length_map, List.length_map]; omega) (one_cbA N2) ?_; intro w19 hp19; simp only [Act.put])
        rw [show spl (ys.map cb).toArray 0 (N2.map cb).toArray.toList = (N2.map cb).toArray from spl_whole (by rw [List.size_toArray, List.size_toArray, List.length_map, List.length_map]; omega)] at hp19
        go_roundw
        case rel => exact ⟨j + 1, N, N2, by rw [List.length_reverse]; omega, HST.out.symm, by go_num, hp19.other hxv hne1, hp19.blk, hbv.trans (hp19.below hw14), hnl, hnl2⟩
        case measure => simp [intOf]; omega
    · have hjd : j = ds.length := by omega
      have hzl : (ds.reverse.zip rest).length = j := by rw [List.length_zip, List.length_reverse, HRL.out, hjd, Nat.min_self]
      have hfin : (xs, ys) = (X, Y) := by rw [hst, ← hzl, List.take_length]; exact HMD.out.symm
      injection hfin with e1 e2
      subst e1 e2
      clear hst HMD hzl
      have hjp : ¬ j < (p - 1) := by omega
      have hz8 := hz811.below hbr hz811.lt
      have hz9 := hz911.below hbr hz911.lt
      have HF := hid (bx_trans HB11.out hbr)
      have hax := aggHL hxs
      have hay := aggHL hys
      have h8l := hz811.lt
      have hne1g : g14 ≠ g8 := by omega
      clear hbr hz811 hz911
      go_wp2_with fail
      refine wp_flowK (by kernel_rfl) [0, 0, 1, 7, 15] 3 [false, false, false, false, false, false, false, false, false, false, false, false, false, false, false, false, false, false, false, false, false, false, false, false, false, false, false, false, false, false, false, false, false, false, false, false, false, false, false, false, false, false, false, false, false, false, false, false, false, false, false, false, false, false, false, false, false, false, false, false, false, false, false, false, false, false, false, false, false, false, false, true, true] (by kernel_rfl) (by decide) (by kernel_rfl) [KP.eq (.agg (xs.map cb).toArray), KP.eq (.agg (ys.map cb).toArray), KP.any] [2] (fun ks w' => MK wo g8 xs ks w') ?_ ?_ ?_
      · simp only [List.map_cons, List.map_nil]
        exact rfl
      · refine allFrom_cons ?_ ?_
        · refine stepK_by (by decide) ?_
          intro f_ a_ w_ hM_ hk_
          have h13 : a_.eval (.tmp 13) = .pointer (some ⟨g13, 0, none⟩) := hk_.old 13 (by kernel_rfl)
          have k2 := hk_.later 2 _ (by kernel_rfl) rfl
          clear hk_
          refine flow_plain rfl ?_
          have hM := hM_
          simp only [List.map_cons, List.map_nil, k2] at hM
          exact gives_ldC rfl h13 hax (blk_cells (MK_blk hM hx (by omega))) ⟨hM_, rfl⟩
        refine allFrom_cons ?_ ?_
        · refine stepK_by (by decide) ?_
          intro f_ a_ w_ hM_ hk_
          have h14 : a_.eval (.tmp 14) = .pointer (some ⟨g14, 0, none⟩) := hk_.old 14 (by kernel_rfl)
          clear hk_
          refine flow_plain rfl ?_
          have hM := hM_
          simp only [List.map_cons, List.map_nil] at hM
          exact gives_ldC rfl h14 hay (blk_cells (MK_blk hM hy hne1g)) ⟨hM_, rfl⟩
        refine allFrom_cons ?_ ?_
        · intro f_ a_ w_ hM_ hk_
          have h8 : a_.eval (.tmp 8) = .pointer (some ⟨g8, 0, none⟩) := hk_.old 8 (by kernel_rfl)
          have h71 : a_.eval (.tmp 71) = (.agg (xs.map cb).toArray) := hk_.got 0 71 _ (by kernel_rfl) rfl rfl
          have k2 : f_ 2 = none := hk_.un
          clear hk_
          simp only [List.map_cons, List.map_nil, k2] at hM_
          simp only [List.map_cons, List.map_nil, upd_same]
          refine flow_plain rfl ?_
          have hw_ : w_ = wo.drew := hM_
          subst hw_
          exact gives_store_agg rfl h8 h71 (aggHS hxs) hz8 (szH hxs) (one_cbA xs) (fun w1 hp1 => ⟨by rw [splH hxs] at hp1; exact hp1, trivial⟩)
        exact allFrom_nil
      intro f_ y_ w_ hM_ hf_ hd_
      have h71 : f_ 71 = (.agg (xs.map cb).toArray) := (hf_ 0 71 _ (by decide) rfl rfl).1
      have h72 : f_ 72 = (.agg (ys.map cb).toArray) := (hf_ 1 72 _ (by decide) rfl rfl).1
      obtain ⟨x2, k2⟩ := hd_ 2 (by decide)
      simp only [List.map_cons, List.map_nil, k2] at hM_
      simp only [mix, List.drop_succ_cons, List.drop_zero, h71, h72]
      clear hf_ hd_ h71 h72 k2
      have hp17 : Put wo.drew w_ g8 tH (xs.map cb).toArray := hM_
      have hz918 := hp17.other (show Blk wo.drew g9 tH _ from hz9) (Ne.symm hne89)
      go_wp2_with ((with_reducible refine wpAtC ?_); refine wpList_store_agg rfl _ _ _ rfl _ _ rfl (ys.map cb).toArray rfl (aggHS hys) hz918 (szH hys) (one_cbA ys) ?_; intro w18 hp18; simp only [Act.put]; rw [splH hys] at hp18)
      have hA := hp18.other hp17.blk hne89
      exact bodyPost_ret (results_agg3 rfl rfl rfl hax hay (blk_cells hA) (blk_cells hp18.blk)) rfl ⟨rfl, bx_put (bx_put HF.out.drew hp17 hw8) hp18 hw9⟩

end Go.Proofs.YtjkolpioglpigaaDoor
