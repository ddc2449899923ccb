
/- Clashes: the first two entries of one narrow hash, reckoned by the kernel. Clashes: the statements' common example. -/
import Derived.Test.YtgaefejblmnklaaDoorClR
namespace Go.Proofs.YtgaefejblmnklaaDoor
section
open Go.RowKit
set_option linter.unusedVariables false
def firstKeys : List Nat := [223, 107, 49, 17, 114, 61, 171, 52, 201, 1, 136, 31, 186, 120, 195, 18, 110, 202, 124, 98, 5, 48, 189, 41, 213, 145, 242, 195]
theorem keys0 : (List.range 28).map (keyN 0) = firstKeys := by kernel_rfl
theorem tabN {f : Nat → Nat} {L : List Nat} {n : Nat} (h : (List.range n).map f = L) (i : Nat) (hi : i < n) : f i = L.getD i 0 := by
  subst h
  simp [List.getD_eq_getElem?_getD, List.getElem?_map, List.getElem?_range hi]
theorem key0 (i : Nat) (hi : i < 28) : keyN 0 i = firstKeys.getD i 0 := tabN keys0 i hi
theorem pair0 {k i : Nat} (hk : k < i) (hn : allNew 0 i) (he : keyN 0 k = keyN 0 i) : k = 14 ∧ i = 27 := by
  have h1427 : keyN 0 14 = keyN 0 27 := by rw [key0 14 (by decide), key0 27 (by decide)]; rfl
  have hi : i < 28 := by
    rcases Nat.lt_or_ge i 28 with h | h
    · exact h
    · exact absurd h1427 (hn 27 (by omega) 14 (by omega))
  rw [key0 k (by omega), key0 i hi] at he
  have key : ∀ i : Fin 28, ∀ k : Fin 28, k.val < i.val → firstKeys.getD k.val 0 = firstKeys.getD i.val 0 → k.val = 14 ∧ i.val = 27 := by decide
  exact key ⟨i, hi⟩ ⟨k, by omega⟩ hk he
theorem whole0 : shaL (0 :: entN 0 14) ≠ shaL (0 :: entN 0 27) := by
  have h1 : (shaL (0 :: entN 0 14)).getD 1 0 = 54 := by kernel_rfl
  have h2 : (shaL (0 :: entN 0 27)).getD 1 0 = 8 := by kernel_rfl
  intro h
  rw [h, h2] at h1
  exact absurd h1 (by decide)
end
section
open Go.RowKit
set_option linter.unusedVariables false
theorem Laid.ofBelow {w w' : World} (h : Laid w) (hb : Below w.heap.size w w') : Laid w' := h.below hb
/-- Two entries of one narrow hash, without a path: they are shown. -/
theorem flg1 : flg 1 0 = [] := flg_no 0 (by decide)
theorem rowsE1 : rowsE 1 0 0 = 0 := by unfold rowsE; rw [if_neg (by decide), flg1]; rfl
theorem rowsR1 (wide : Int) (en : List UInt8) : rowsR wide 1 0 en [] = [0 :: en] := by
  unfold rowsR
  rw [show ([] : List (List UInt8)).length = 0 from rfl, rowsE1, if_pos rfl, flg1]
  rfl
theorem rowsH1 (wide : Int) (en : List UInt8) : rowsH wide 1 0 en [] = narL wide (0 :: en) := by
  unfold rowsH
  rw [show ([] : List (List UInt8)).length = 0 from rfl, rowsE1, if_pos rfl, flg1]
  rfl
def h56 : List UInt8 := 5 :: 6 :: List.replicate 30 0
def h5 : List UInt8 := 5 :: List.replicate 31 0
theorem h56_len : h56.length = 32 := by simp [h56]
theorem h5_len : h5.length = 32 := by simp [h5]
theorem blt56 : Tryd.prog.built tH [(0, .int .u8 5), (1, .int .u8 6)] = some (h56.map cb).toArray := by kernel_rfl
theorem blt5 : Tryd.prog.built tH [(0, .int .u8 5)] = some (h5.map cb).toArray := by kernel_rfl
theorem cut56 : cutL (wideN 1) h56 = h5 := by
  rw [wide1]
  unfold cutL h56 h5
  rfl
theorem gives_blt {o : Oper} {a : Act} {w : World} {S : Value → World → Prop} {t : TypeId} {parts : Array (Nat × Operand)} (ho : o.op = .build t parts) {vs : List (Nat × Value)} (hv : (parts.map fun (i, x) => (i, a.eval x)).toList = vs) {cells : Array Value} (hb : Tryd.prog.built t vs = some cells)
    (h : S (.agg cells) w) : gives Tryd.prog o a w S := by
  refine gives_val (v := .agg cells) (w' := w) ?_ h
  unfold execOp
  rw [← hv] at hb
  simp only [ho, Sem.run_bind, run_build w t _ cells hb, Result.andThen_ok, Sem.run_pure]
set_option maxRecDepth 100000 in
set_option maxHeartbeats 4000000 in
theorem clAwake (w : World) (hL : Laid w) : Calls Tryd.prog 7 #[] w fun e w' => e = .returned (.bool true) ∧ Below w.heap.size w w' := by
  have HL := hid hL
  clear hL
  go_enter Tryd.func7, Tryd.ntmps7
  rw [hold 3]
  go_wp2_with fail
  refine (pair_any w HL.out 0).mono ?_
  rintro e w1 ⟨hb1, k, i, va, vb, hki, hi3, hnew, hkey, hra, hrb, rfl⟩
  obtain ⟨rfl, rfl⟩ := pair0 hki hnew hkey
  have hnar := key_hash hkey
  have hne := whole0
  obtain ⟨a, hae⟩ : ∃ a, a = entN 0 14 := ⟨_, rfl⟩
  obtain ⟨b, hbe⟩ : ∃ b, b = entN 0 27 := ⟨_, rfl⟩
  have hal : a.length = 3 := by rw [hae]; rfl
  have hbl : b.length = 3 := by rw [hbe]; rfl
  have hab : a ≠ b := by
    intro h
    rw [hae, hbe] at h
    exact absurd (entN_inj (by decide) (by decide) h) (by decide)
  rw [← hae] at hra hnar hne
  rw [← hbe] at hrb hnar hne
  clear hae hbe hkey hnew hki hi3
  obtain ⟨Aa, ca, rfl, hca, hra⟩ := hra
  obtain ⟨Ab, cc, rfl, hcb, hrb⟩ := hrb
  have hP := Paths_any w1 (HL.out.below hb1) 1 (size := 1) (i := 0) (by decide) (ca := ca) hra hca (by omega) (cc := cc) hrb hcb (by omega) (P := []) (p := 0) (cp := 0) (Ap := none) rfl (fun x hx => by simp at hx) (.inl rfl) (by decide) (Q := []) (q := 0) (cq := 0) (Aq := none) rfl (fun x hx => by simp at hx) (.inl rfl) (by decide)
  rw [rowsE1, rowsH1, rowsH1, rowsR1, rowsR1] at hP
  have HP := hid hP
  have HNE := hid hne
  have HNAR := hid hnar
  have HAB := hid hab
  have HRA := hid hra
  clear hP hne hnar hab hra hrb
  have HAL := hid hal
  have HBL := hid hbl
  clear hal hbl
  go_wp2_with fail
  refine HP.out.mono ?_
  rintro e w2 ⟨hb2, h⟩
  rcases h with ⟨h, _⟩ | ⟨_, j, va, vb, hj, hd, _, hoa, hob, rfl⟩
  · exfalso
    rcases h with h | h
    · exact h ⟨HAB.out, by simp, by simp, HNAR.out⟩
    · injection h with h
      injection h with _ h
      exact HAB.out h
  · have hj0 : j = 0 := by
      have : j < 1 := hj
      omega
    subst hj0
    have hoa : OwnB w2 w1.heap.size va (0 :: a) := hoa
    have hob : OwnB w2 w1.heap.size vb (0 :: b) := hob
    clear hj hd
    have hb02 := bx_trans hb1 hb2
    obtain ⟨x, hx⟩ : ∃ x : List UInt8, x = 0 :: a := ⟨_, rfl⟩
    obtain ⟨y, hy⟩ : ∃ y : List UInt8, y = 0 :: b := ⟨_, rfl⟩
    rw [← hx] at hoa HNAR HNE
    rw [← hy] at hob HNAR HNE
    have hxl : x.length = 4 := by rw [hx, List.length_cons, HAL.out]
    have hyl : y.length = 4 := by rw [hy, List.length_cons, HBL.out]
    have hxy : x ≠ y := fun h => HNE.out (by rw [h])
    obtain ⟨Ax, cx, rfl, hcx, hrx⟩ := hoa.rd
    obtain ⟨Ay, cy, rfl, hcy, hry⟩ := hob.rd
    have HXL := hid hxl
    have HCK1 := hid (fun (W : World) (hb : Below w2.heap.size w2 W) => Check_any W (HL.out.below (bx_trans hb02 hb)) 1 (c := cx) (c' := cy) ((hrx.below hb).more hb.size) (Nat.le_refl _) hcx (by omega) ((hry.below hb).more hb.size) (Nat.le_refl _) hcy (by omega))
    have HCK2 := hid (fun (W : World) (hb : Below w2.heap.size w2 W) => Check_any W (HL.out.below (bx_trans hb02 hb)) 32 (c := cx) (c' := cy) ((hrx.below hb).more hb.size) (Nat.le_refl _) hcx (by omega) ((hry.below hb).more hb.size) (Nat.le_refl _) hcy (by omega))
    have hv1 : (!(x == y) && (narL 1 x == narL 1 y)) = true := by
      rw [show (x == y) = false by simpa using hxy, HNAR.out]
      simp
    have hv2 : (!(x == y) && (narL 32 x == narL 32 y)) = false := by
      rw [narL_32, narL_32, show (shaL x == shaL y) = false by simpa using HNE.out]
      simp
    rw [hv1] at HCK1
    rw [hv2] at HCK2
    have h5l := h5_len
    have h56l := h56_len
    have heq := eq_hash h5 h5 h5_len h5_len
    rw [show (h5 == h5) = true by simp] at heq
    have hC56 := fun W => Cut_any W 1 h56_len
    rw [cut56] at hC56
    have HC56 := hid hC56
    have hB5 := blt5
    have hB56 := blt56
    generalize h5 = H5 at *
    generalize h56 = H56 at *
    have HB5 := hid hB5
    have HB56 := hid hB56
    have HHX := hid hx
    clear hx hy hxl hyl hxy hrx hry hoa hob hv1 hv2 hC56 hB5 hB56
    have hoc : ∀ v ∈ (#[.slice Ax x.length cx, .slice Ay y.length cy] : Array Value).toList, v.oneCell' = true := by intro v hv; simp at hv; rcases hv with rfl | rfl <;> rfl
    go_wp2_with (first
      | ((with_reducible refine wpAtC ?_); refine wpList_alloc (w := w2) rfl _ rfl zeroCl ?_; intro g4 w3 hg4 hg4' hz4 hb3; simp only [Act.put, List.setIfInBounds_toArray, List.set_cons_succ, List.set_cons_zero])
      | ((with_reducible refine wpAtC ?_); refine wpList_store_agg rfl _ _ _ rfl _ _ rfl #[.slice Ax x.length cx, .slice Ay y.length cy] rfl (aggCl _ _) hz4 (Nat.le_refl _) hoc ?_; intro w4 hp4; simp only [Act.put]))
    have hb24 := bx_put hb3 hp4 hg4
    have hb04 := bx_trans hb02 hb24
    have hk4 := hp4.blk
    have hk4c := hk4.cell 0
    have hk4l := hk4.lt
    have hxa : (x.length : Int) = (a.length : Int) + 1 := by rw [HHX.out, List.length_cons]; omega
    have HXA := hid hxa
    clear hz4 hp4 hb3 hb02 hb1 hb2 hg4' hxa
    unfold Hold
    refine wp_region_lit ?_
    refine wp_flowSE [0, 1, 3, 7, 15, 31, 63, 127, 255, 511, 1023, 2047, 4095, 8191, 16383, 32767, 65535, 131071, 262143, 524287, 1048575, 2097151, 4194303, 8388607, 16777215, 33554431, 67108863, 134217727, 268435455] 29 [true, false, false, false, false, false, false, false, false, false, false, false, false, false, false, false, false, true, true, true, true, true, true, true, true, true, true, true, true, true, true, true, true, true, true, true, true, true, true, true, true, true, true, true, true] (by kernel_rfl) (by kernel_rfl) (by kernel_rfl) [FP.eq (.bool true), FP.eq (.bool true), FP.eq (.bool true), FP.eq (.bool true), FP.eq (.bool true), FP.eq (.agg #[.slice Ax x.length cx, .slice Ay y.length cy]), FP.eq (.bool true), FP.eq (.bool true), FP.eq (.bool true), FP.eq (.agg #[.slice Ax x.length cx, .slice Ay y.length cy]), FP.eq (.bool false), FP.eq (.bool true), FP.eq (.bool true), FP.eq (.bool true), FP.eq (.agg (H56.map cb).toArray), FP.eq (.agg (H5.map cb).toArray), FP.eq (.agg (H5.map cb).toArray), FP.eq (.bool true), FP.eq (.bool true), FP.eq (.bool true), FP.eq (.pointer (some ⟨g4, 0, none⟩)), FP.eq (.slice Ax x.length cx), FP.eq (.int .i64 4), FP.eq (.slice Aa a.length ca), FP.eq (.int .i64 3), FP.eq (.int .i64 4), FP.eq (.bool true), FP.eq (.bool true), FP.eq (.bool true)] ?_ ?_
    · refine allFrom_cons ?_ ?_
      · intro a_ w_ hk_
        have h3 : a_.eval (.tmp 3) = .bool true := hk_.old 3 (by kernel_rfl)
        have hx_ := hk_.ext
        clear hk_
        refine flow_plain rfl ?_
        exact gives_move rfl ⟨Below.refl _ _, h3⟩
      refine allFrom_cons ?_ ?_
      · intro a_ w_ hk_
        have h17 : a_.eval (.tmp 17) = (.bool true) := hk_.got 0 17 _ (by kernel_rfl) rfl rfl
        have hx_ := hk_.ext
        clear hk_
        refine flow_plain rfl ?_
        exact gives_move rfl ⟨Below.refl _ _, h17⟩
      refine allFrom_cons ?_ ?_
      · intro a_ w_ hk_
        have h5 : a_.eval (.tmp 5) = .bool true := hk_.old 5 (by kernel_rfl)
        have hg_ : a_.eval (.tmp 18) = .bool true := hk_.got 1 18 _ (by kernel_rfl) rfl rfl
        have hy_ := hk_.want 1 _ 18 true rfl rfl hg_
        have hx_ := hk_.ext
        clear hk_
        refine flow_want rfl hy_ ?_
        exact gives_move rfl ⟨Below.refl _ _, h5⟩
      refine allFrom_cons ?_ ?_
      · intro a_ w_ hk_
        have h18 : a_.eval (.tmp 18) = (.bool true) := hk_.got 1 18 _ (by kernel_rfl) rfl rfl
        have h19 : a_.eval (.tmp 19) = (.bool true) := hk_.got 2 19 _ (by kernel_rfl) rfl rfl
        have hx_ := hk_.ext
        clear hk_
        refine flow_plain rfl ?_
        exact gives_pick rfl h18 ⟨Below.refl _ _, h19⟩
      refine allFrom_cons ?_ ?_
      · intro a_ w_ hk_
        have h20 : a_.eval (.tmp 20) = (.bool true) := hk_.got 3 20 _ (by kernel_rfl) rfl rfl
        have hx_ := hk_.ext
        clear hk_
        refine flow_plain rfl ?_
        exact gives_move rfl ⟨Below.refl _ _, h20⟩
      refine allFrom_cons ?_ ?_
      · intro a_ w_ hk_
        have h4 : a_.eval (.tmp 4) = .pointer (some ⟨g4, 0, none⟩) := hk_.old 4 (by kernel_rfl)
        have hg_ : a_.eval (.tmp 21) = .bool true := hk_.got 4 21 _ (by kernel_rfl) rfl rfl
        have hy_ := hk_.want 4 _ 21 true rfl rfl hg_
        have hx_ := hk_.ext
        clear hk_
        refine flow_want rfl hy_ ?_
        exact gives_ldC rfl h4 (aggCl _ _) (blk_cells (hk4.below hx_ hk4.lt)) ⟨Below.refl _ _, rfl⟩
      refine allFrom_cons ?_ ?_
      · intro a_ w_ hk_
        have h22 : a_.eval (.tmp 22) = (.agg #[.slice Ax x.length cx, .slice Ay y.length cy]) := hk_.got 5 22 _ (by kernel_rfl) rfl rfl
        have hg_ : a_.eval (.tmp 21) = .bool true := hk_.got 4 21 _ (by kernel_rfl) rfl rfl
        have hy_ := hk_.want 4 _ 21 true rfl rfl hg_
        have hx_ := hk_.ext
        clear hk_
        refine flow_want rfl hy_ ?_
        unfold gives
        have hc_ : ∀ v, a_.eval (.const v) = v := fun _ => rfl
        have hn_ : ∀ f, a_.eval (.func f) = .func (.func f) #[] #[] := fun _ => rfl
        clear hy_ hg_
        generalize a_.eval = ρ_ at *
        go_simp
        exact (HCK1.out w_ (bx_trans hb24 hx_)).mono fun e w' hh => ⟨_, hh.1, hh.2, rfl⟩
      refine allFrom_cons ?_ ?_
      · intro a_ w_ hk_
        have h21 : a_.eval (.tmp 21) = (.bool true) := hk_.got 4 21 _ (by kernel_rfl) rfl rfl
        have h23 : a_.eval (.tmp 23) = (.bool true) := hk_.got 6 23 _ (by kernel_rfl) rfl rfl
        have hx_ := hk_.ext
        clear hk_
        refine flow_plain rfl ?_
        exact gives_pick rfl h21 ⟨Below.refl _ _, h23⟩
      refine allFrom_cons ?_ ?_
      · intro a_ w_ hk_
        have h24 : a_.eval (.tmp 24) = (.bool true) := hk_.got 7 24 _ (by kernel_rfl) rfl rfl
        have hx_ := hk_.ext
        clear hk_
        refine flow_plain rfl ?_
        exact gives_move rfl ⟨Below.refl _ _, h24⟩
      refine allFrom_cons ?_ ?_
      · intro a_ w_ hk_
        have h4 : a_.eval (.tmp 4) = .pointer (some ⟨g4, 0, none⟩) := hk_.old 4 (by kernel_rfl)
        have hg_ : a_.eval (.tmp 25) = .bool true := hk_.got 8 25 _ (by kernel_rfl) rfl rfl
        have hy_ := hk_.want 8 _ 25 true rfl rfl hg_
        have hx_ := hk_.ext
        clear hk_
        refine flow_want rfl hy_ ?_
        exact gives_ldC rfl h4 (aggCl _ _) (blk_cells (hk4.below hx_ hk4.lt)) ⟨Below.refl _ _, rfl⟩
      refine allFrom_cons ?_ ?_
      · intro a_ w_ hk_
        have h26 : a_.eval (.tmp 26) = (.agg #[.slice Ax x.length cx, .slice Ay y.length cy]) := hk_.got 9 26 _ (by kernel_rfl) rfl rfl
        have hg_ : a_.eval (.tmp 25) = .bool true := hk_.got 8 25 _ (by kernel_rfl) rfl rfl
        have hy_ := hk_.want 8 _ 25 true rfl rfl hg_
        have hx_ := hk_.ext
        clear hk_
        refine flow_want rfl hy_ ?_
        unfold gives
        have hc_ : ∀ v, a_.eval (.const v) = v := fun _ => rfl
        have hn_ : ∀ f, a_.eval (.func f) = .func (.func f) #[] #[] := fun _ => rfl
        clear hy_ hg_
        generalize a_.eval = ρ_ at *
        go_simp
        exact (HCK2.out w_ (bx_trans hb24 hx_)).mono fun e w' hh => ⟨_, hh.1, hh.2, rfl⟩
      refine allFrom_cons ?_ ?_
      · intro a_ w_ hk_
        have h27 : a_.eval (.tmp 27) = (.bool false) := hk_.got 10 27 _ (by kernel_rfl) rfl rfl
        have hg_ : a_.eval (.tmp 25) = .bool true := hk_.got 8 25 _ (by kernel_rfl) rfl rfl
        have hy_ := hk_.want 8 _ 25 true rfl rfl hg_
        have hx_ := hk_.ext
        clear hk_
        refine flow_want rfl hy_ ?_
        unfold gives
        have hc_ : ∀ v, a_.eval (.const v) = v := fun _ => rfl
        have hn_ : ∀ f, a_.eval (.func f) = .func (.func f) #[] #[] := fun _ => rfl
        clear hy_ hg_
        generalize a_.eval = ρ_ at *
        go_simp
        exact ⟨Below.refl _ _, rfl⟩
      refine allFrom_cons ?_ ?_
      · intro a_ w_ hk_
        have h25 : a_.eval (.tmp 25) = (.bool true) := hk_.got 8 25 _ (by kernel_rfl) rfl rfl
        have h28 : a_.eval (.tmp 28) = (.bool true) := hk_.got 11 28 _ (by kernel_rfl) rfl rfl
        have hx_ := hk_.ext
        clear hk_
        refine flow_plain rfl ?_
        exact gives_pick rfl h25 ⟨Below.refl _ _, h28⟩
      refine allFrom_cons ?_ ?_
      · intro a_ w_ hk_
        have h29 : a_.eval (.tmp 29) = (.bool true) := hk_.got 12 29 _ (by kernel_rfl) rfl rfl
        have hx_ := hk_.ext
        clear hk_
        refine flow_plain rfl ?_
        exact gives_move rfl ⟨Below.refl _ _, h29⟩
      refine allFrom_cons ?_ ?_
      · intro a_ w_ hk_
        have hg_ : a_.eval (.tmp 30) = .bool true := hk_.got 13 30 _ (by kernel_rfl) rfl rfl
        have hy_ := hk_.want 13 _ 30 true rfl rfl hg_
        have hx_ := hk_.ext
        clear hk_
        refine flow_want rfl hy_ ?_
        exact gives_blt (vs := [(0, .int .u8 5), (1, .int .u8 6)]) rfl (by simp [Act.eval]) HB56.out ⟨Below.refl _ _, rfl⟩
      refine allFrom_cons ?_ ?_
      · intro a_ w_ hk_
        have h31 : a_.eval (.tmp 31) = (.agg (H56.map cb).toArray) := hk_.got 14 31 _ (by kernel_rfl) rfl rfl
        have hg_ : a_.eval (.tmp 30) = .bool true := hk_.got 13 30 _ (by kernel_rfl) rfl rfl
        have hy_ := hk_.want 13 _ 30 true rfl rfl hg_
        have hx_ := hk_.ext
        clear hk_
        refine flow_want rfl hy_ ?_
        unfold gives
        have hc_ : ∀ v, a_.eval (.const v) = v := fun _ => rfl
        have hn_ : ∀ f, a_.eval (.func f) = .func (.func f) #[] #[] := fun _ => rfl
        clear hy_ hg_
        generalize a_.eval = ρ_ at *
        go_simp
        exact (HC56.out w_).mono fun e w' hh => ⟨_, hh.1, hh.2, rfl⟩
      refine allFrom_cons ?_ ?_
      · intro a_ w_ hk_
        have hg_ : a_.eval (.tmp 30) = .bool true := hk_.got 13 30 _ (by kernel_rfl) rfl rfl
        have hy_ := hk_.want 13 _ 30 true rfl rfl hg_
        have hx_ := hk_.ext
        clear hk_
        refine flow_want rfl hy_ ?_
        exact gives_blt (vs := [(0, .int .u8 5)]) rfl (by simp [Act.eval]) HB5.out ⟨Below.refl _ _, rfl⟩
      refine allFrom_cons ?_ ?_
      · intro a_ w_ hk_
        have h32 : a_.eval (.tmp 32) = (.agg (H5.map cb).toArray) := hk_.got 15 32 _ (by kernel_rfl) rfl rfl
        have h33 : a_.eval (.tmp 33) = (.agg (H5.map cb).toArray) := hk_.got 16 33 _ (by kernel_rfl) rfl rfl
        have hg_ : a_.eval (.tmp 30) = .bool true := hk_.got 13 30 _ (by kernel_rfl) rfl rfl
        have hy_ := hk_.want 13 _ 30 true rfl rfl hg_
        have hx_ := hk_.ext
        clear hk_
        refine flow_want rfl hy_ ?_
        unfold gives
        have hc_ : ∀ v, a_.eval (.const v) = v := fun _ => rfl
        have hn_ : ∀ f, a_.eval (.func f) = .func (.func f) #[] #[] := fun _ => rfl
        clear hy_ hg_
        generalize a_.eval = ρ_ at *
        go_simp
        exact ⟨Below.refl _ _, rfl⟩
      refine allFrom_cons ?_ ?_
      · intro a_ w_ hk_
        have h30 : a_.eval (.tmp 30) = (.bool true) := hk_.got 13 30 _ (by kernel_rfl) rfl rfl
        have h34 : a_.eval (.tmp 34) = (.bool true) := hk_.got 17 34 _ (by kernel_rfl) rfl rfl
        have hx_ := hk_.ext
        clear hk_
        refine flow_plain rfl ?_
        exact gives_pick rfl h30 ⟨Below.refl _ _, h34⟩
      refine allFrom_cons ?_ ?_
      · intro a_ w_ hk_
        have h35 : a_.eval (.tmp 35) = (.bool true) := hk_.got 18 35 _ (by kernel_rfl) rfl rfl
        have hx_ := hk_.ext
        clear hk_
        refine flow_plain rfl ?_
        exact gives_move rfl ⟨Below.refl _ _, h35⟩
      refine allFrom_cons ?_ ?_
      · intro a_ w_ hk_
        have h4 : a_.eval (.tmp 4) = .pointer (some ⟨g4, 0, none⟩) := hk_.old 4 (by kernel_rfl)
        have hg_ : a_.eval (.tmp 36) = .bool true := hk_.got 19 36 _ (by kernel_rfl) rfl rfl
        have hy_ := hk_.want 19 _ 36 true rfl rfl hg_
        have hx_ := hk_.ext
        clear hk_
        refine flow_want rfl hy_ ?_
        unfold gives
        have hc_ : ∀ v, a_.eval (.const v) = v := fun _ => rfl
        have hn_ : ∀ f, a_.eval (.func f) = .func (.func f) #[] #[] := fun _ => rfl
        clear hy_ hg_
        generalize a_.eval = ρ_ at *
        go_simp
        exact ⟨Below.refl _ _, rfl⟩
      refine allFrom_cons ?_ ?_
      · intro a_ w_ hk_
        have h37 : a_.eval (.tmp 37) = (.pointer (some ⟨g4, 0, none⟩)) := hk_.got 20 37 _ (by kernel_rfl) rfl rfl
        have hg_ : a_.eval (.tmp 36) = .bool true := hk_.got 19 36 _ (by kernel_rfl) rfl rfl
        have hy_ := hk_.want 19 _ 36 true rfl rfl hg_
        have hx_ := hk_.ext
        clear hk_
        refine flow_want rfl hy_ ?_
        unfold gives
        have hc_ : ∀ v, a_.eval (.const v) = v := fun _ => rfl
        have hn_ : ∀ f, a_.eval (.func f) = .func (.func f) #[] #[] := fun _ => rfl
        clear hy_ hg_
        have hcell := (hx_.cell (p := ⟨g4, 0, none⟩) hk4l).trans hk4c
        generalize a_.eval = ρ_ at *
        go_simp
        exact ⟨Below.refl _ _, rfl⟩
      refine allFrom_cons ?_ ?_
      · intro a_ w_ hk_
        have h38 : a_.eval (.tmp 38) = (.slice Ax x.length cx) := hk_.got 21 38 _ (by kernel_rfl) rfl rfl
        have hg_ : a_.eval (.tmp 36) = .bool true := hk_.got 19 36 _ (by kernel_rfl) rfl rfl
        have hy_ := hk_.want 19 _ 36 true rfl rfl hg_
        have hx_ := hk_.ext
        clear hk_
        refine flow_want rfl hy_ ?_
        unfold gives
        have hc_ : ∀ v, a_.eval (.const v) = v := fun _ => rfl
        have hn_ : ∀ f, a_.eval (.func f) = .func (.func f) #[] #[] := fun _ => rfl
        clear hy_ hg_
        have hx4 := HXL.out
        generalize a_.eval = ρ_ at *
        go_simp
        exact ⟨Below.refl _ _, rfl⟩
      refine allFrom_cons ?_ ?_
      · intro a_ w_ hk_
        have h1 : a_.eval (.tmp 1) = .slice Aa a.length ca := hk_.old 1 (by kernel_rfl)
        have hg_ : a_.eval (.tmp 36) = .bool true := hk_.got 19 36 _ (by kernel_rfl) rfl rfl
        have hy_ := hk_.want 19 _ 36 true rfl rfl hg_
        have hx_ := hk_.ext
        clear hk_
        refine flow_want rfl hy_ ?_
        exact gives_move rfl ⟨Below.refl _ _, h1⟩
      refine allFrom_cons ?_ ?_
      · intro a_ w_ hk_
        have h40 : a_.eval (.tmp 40) = (.slice Aa a.length ca) := hk_.got 23 40 _ (by kernel_rfl) rfl rfl
        have hg_ : a_.eval (.tmp 36) = .bool true := hk_.got 19 36 _ (by kernel_rfl) rfl rfl
        have hy_ := hk_.want 19 _ 36 true rfl rfl hg_
        have hx_ := hk_.ext
        clear hk_
        refine flow_want rfl hy_ ?_
        unfold gives
        have hc_ : ∀ v, a_.eval (.const v) = v := fun _ => rfl
        have hn_ : ∀ f, a_.eval (.func f) = .func (.func f) #[] #[] := fun _ => rfl
        clear hy_ hg_
        have ha3 := HAL.out
        generalize a_.eval = ρ_ at *
        go_simp
        exact ⟨Below.refl _ _, rfl⟩
      refine allFrom_cons ?_ ?_
      · intro a_ w_ hk_
        have h41 : a_.eval (.tmp 41) = (.int .i64 3) := hk_.got 24 41 _ (by kernel_rfl) rfl rfl
        have hg_ : a_.eval (.tmp 36) = .bool true := hk_.got 19 36 _ (by kernel_rfl) rfl rfl
        have hy_ := hk_.want 19 _ 36 true rfl rfl hg_
        have hx_ := hk_.ext
        clear hk_
        refine flow_want rfl hy_ ?_
        unfold gives
        have hc_ : ∀ v, a_.eval (.const v) = v := fun _ => rfl
        have hn_ : ∀ f, a_.eval (.func f) = .func (.func f) #[] #[] := fun _ => rfl
        clear hy_ hg_
        generalize a_.eval = ρ_ at *
        go_simp
        exact ⟨Below.refl _ _, rfl⟩
      refine allFrom_cons ?_ ?_
      · intro a_ w_ hk_
        have h39 : a_.eval (.tmp 39) = (.int .i64 4) := hk_.got 22 39 _ (by kernel_rfl) rfl rfl
        have h42 : a_.eval (.tmp 42) = (.int .i64 4) := hk_.got 25 42 _ (by kernel_rfl) rfl rfl
        have hg_ : a_.eval (.tmp 36) = .bool true := hk_.got 19 36 _ (by kernel_rfl) rfl rfl
        have hy_ := hk_.want 19 _ 36 true rfl rfl hg_
        have hx_ := hk_.ext
        clear hk_
        refine flow_want rfl hy_ ?_
        unfold gives
        have hc_ : ∀ v, a_.eval (.const v) = v := fun _ => rfl
        have hn_ : ∀ f, a_.eval (.func f) = .func (.func f) #[] #[] := fun _ => rfl
        clear hy_ hg_
        generalize a_.eval = ρ_ at *
        go_simp
        exact ⟨Below.refl _ _, rfl⟩
      refine allFrom_cons ?_ ?_
      · intro a_ w_ hk_
        have h36 : a_.eval (.tmp 36) = (.bool true) := hk_.got 19 36 _ (by kernel_rfl) rfl rfl
        have h43 : a_.eval (.tmp 43) = (.bool true) := hk_.got 26 43 _ (by kernel_rfl) rfl rfl
        have hx_ := hk_.ext
        clear hk_
        refine flow_plain rfl ?_
        exact gives_pick rfl h36 ⟨Below.refl _ _, h43⟩
      refine allFrom_cons ?_ ?_
      · intro a_ w_ hk_
        have h44 : a_.eval (.tmp 44) = (.bool true) := hk_.got 27 44 _ (by kernel_rfl) rfl rfl
        have hx_ := hk_.ext
        clear hk_
        refine flow_plain rfl ?_
        exact gives_assign rfl ⟨Below.refl _ _, h44⟩
      exact allFrom_nil
    intro f_ w_ hx_ hf_
    have h17 : f_ 17 = (.bool true) := hf_ 0 17 _ (by decide) rfl rfl
    have h18 : f_ 18 = (.bool true) := hf_ 1 18 _ (by decide) rfl rfl
    have h19 : f_ 19 = (.bool true) := hf_ 2 19 _ (by decide) rfl rfl
    have h20 : f_ 20 = (.bool true) := hf_ 3 20 _ (by decide) rfl rfl
    have h21 : f_ 21 = (.bool true) := hf_ 4 21 _ (by decide) rfl rfl
    have h22 : f_ 22 = (.agg #[.slice Ax x.length cx, .slice Ay y.length cy]) := hf_ 5 22 _ (by decide) rfl rfl
    have h23 : f_ 23 = (.bool true) := hf_ 6 23 _ (by decide) rfl rfl
    have h24 : f_ 24 = (.bool true) := hf_ 7 24 _ (by decide) rfl rfl
    have h25 : f_ 25 = (.bool true) := hf_ 8 25 _ (by decide) rfl rfl
    have h26 : f_ 26 = (.agg #[.slice Ax x.length cx, .slice Ay y.length cy]) := hf_ 9 26 _ (by decide) rfl rfl
    have h27 : f_ 27 = (.bool false) := hf_ 10 27 _ (by decide) rfl rfl
    have h28 : f_ 28 = (.bool true) := hf_ 11 28 _ (by decide) rfl rfl
    have h29 : f_ 29 = (.bool true) := hf_ 12 29 _ (by decide) rfl rfl
    have h30 : f_ 30 = (.bool true) := hf_ 13 30 _ (by decide) rfl rfl
    have h31 : f_ 31 = (.agg (H56.map cb).toArray) := hf_ 14 31 _ (by decide) rfl rfl
    have h32 : f_ 32 = (.agg (H5.map cb).toArray) := hf_ 15 32 _ (by decide) rfl rfl
    have h33 : f_ 33 = (.agg (H5.map cb).toArray) := hf_ 16 33 _ (by decide) rfl rfl
    have h34 : f_ 34 = (.bool true) := hf_ 17 34 _ (by decide) rfl rfl
    have h35 : f_ 35 = (.bool true) := hf_ 18 35 _ (by decide) rfl rfl
    have h36 : f_ 36 = (.bool true) := hf_ 19 36 _ (by decide) rfl rfl
    have h37 : f_ 37 = (.pointer (some ⟨g4, 0, none⟩)) := hf_ 20 37 _ (by decide) rfl rfl
    have h38 : f_ 38 = (.slice Ax x.length cx) := hf_ 21 38 _ (by decide) rfl rfl
    have h39 : f_ 39 = (.int .i64 4) := hf_ 22 39 _ (by decide) rfl rfl
    have h40 : f_ 40 = (.slice Aa a.length ca) := hf_ 23 40 _ (by decide) rfl rfl
    have h41 : f_ 41 = (.int .i64 3) := hf_ 24 41 _ (by decide) rfl rfl
    have h42 : f_ 42 = (.int .i64 4) := hf_ 25 42 _ (by decide) rfl rfl
    have h43 : f_ 43 = (.bool true) := hf_ 26 43 _ (by decide) rfl rfl
    have h44 : f_ 44 = (.bool true) := hf_ 27 44 _ (by decide) rfl rfl
    have h0 : f_ 0 = (.bool true) := hf_ 28 0 _ (by decide) rfl rfl
    simp only [mix, h17, h18, h19, h20, h21, h22, h23, h24, h25, h26, h27, h28, h29, h30, h31, h32, h33, h34, h35, h36, h37, h38, h39, h40, h41, h42, h43, h44, h0]
    clear h17 h18 h19 h20 h21 h22 h23 h24 h25 h26 h27 h28 h29 h30 h31 h32 h33 h34 h35 h36 h37 h38 h39 h40 h41 h42 h43 h44 h0
    clear hf_
    have hbf := bx_trans hb04 hx_
    clear hx_
    go_wp2_with fail
    go_ret
    exact ⟨rfl, hbf⟩
end
end Go.Proofs.YtgaefejblmnklaaDoor
