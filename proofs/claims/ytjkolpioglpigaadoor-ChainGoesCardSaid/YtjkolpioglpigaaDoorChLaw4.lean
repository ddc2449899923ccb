
/- ChainGoes: its walk. -/
import Derived.Test.YtjkolpioglpigaaDoorChM
import Derived.Test.YtjkolpioglpigaaDoorChO
import Derived.OpenShut
namespace Go.Proofs.YtjkolpioglpigaaDoor
open Go.RowKit
set_option linter.unusedVariables false
/-- The value is a slice of so many, of some room, whose cells read as these. -/
def FP.slc (n : Nat) (xs : List Value) : FP := ⟨fun v w => ∃ A c, v = .slice A n c ∧ n ≤ c ∧ c ≤ 9223372036854775807 ∧ Rd w w.heap.size A xs, fun _ _ _ hb h => by
  obtain ⟨A, c, h1, h2, h3, h4⟩ := h
  exact ⟨A, c, h1, h2, h3, (h4.below hb).more hb.size⟩⟩
theorem nil_own (w : World) (base : Nat) (e : TypeId) (size : Nat) : w.ownsRow base e size (.slice none 0 0) 0 [] := ⟨by simp, .inl ⟨rfl, rfl⟩⟩
theorem getD_mem32 {P : List (List UInt8)} (h : ∀ x ∈ P, x.length = 32) (r : List UInt8) (hr : r.length = 32) : ∀ x ∈ P ++ [r], x.length = 32 := by
  intro x hx
  rcases List.mem_append.1 hx with hx | hx
  · exact h x hx
  · simp at hx; subst hx; exact hr
set_option maxRecDepth 10000 in
set_option maxHeartbeats 2000000 in
theorem ChainGoes_walk (w : World) (hL : LaidC w) (A : Option Addr) (c : Nat) (ls : List (List UInt8)) (hc : ls.length ≤ c) (hm : c ≤ maxLen) (hs : ∀ l ∈ ls, l.length ≤ maxLen) (hr : RdBB w w.heap.size A ls) (at_ : Int) (hat : (Lit.int .u8 at_).wf = true) :
    Calls Tryd.prog 5 #[.slice A ls.length c, .int .u8 at_] w fun e w' => e = .returned (.bool true) ∧ Below w.heap.size w w' := by
  have hab := bounds_u8 hat
  obtain ⟨a, rfl⟩ := Int.eq_ofNat_of_zero_le hab.1
  have ha : a ≤ 255 := by omega
  clear hat hab
  have HL := hid hL
  have HR := hid hr
  clear hL hr hs
  go_enter Tryd.func5, Tryd.ntmps5
  generalize hC18 : Code.region 18 _ _ = C18
  have HC18 := hid hC18
  clear hC18
  go_wp2_with fail
  refine (chAwake w HL.out).mono ?_
  rintro e w1 ⟨rfl, hb1⟩
  go_wp2_with fail
  refine (few_any w1 ((HR.out.below hb1).more hb1.size) hc hm).mono ?_
  rintro e w2 ⟨rfl, rfl⟩
  cases hf : fewB ls with
  | false =>
    clear hf
    go_wp2
    go_ret
    exact ⟨rfl, hb1⟩
  | true =>
    obtain ⟨h20, hlen⟩ := fewB_len hf
    have HLEN := hid hlen
    clear hf hlen
    by_cases h0 : ls.length = 0
    · rw [h0]
      clear h0 h20 hc
      go_wp2
      go_ret
      exact ⟨rfl, hb1⟩
    obtain ⟨n, hn⟩ : ∃ n, n = ls.length := ⟨_, rfl⟩
    obtain ⟨q, hq⟩ : ∃ q, q = a % n := ⟨_, rfl⟩
    obtain ⟨m, hmq⟩ : ∃ m, m = q + 1 := ⟨_, rfl⟩
    have hqn : q < n := by rw [hq]; exact Nat.mod_lt _ (by omega)
    have h1 : 1 ≤ m := by omega
    have h2 : m ≤ n := by omega
    have hrem : (a : Int) % (n : Int) = (q : Int) := by rw [hq]; rfl
    have hadd : (q : Int) + 1 = (m : Int) := by omega
    have hnz : ((n : Int) == 0) = false := by simp; omega
    have hu := u64_len n (by omega)
    have hum := u64_len m (by omega)
    have HPL := hid (prf_long (ls := ls) (m := m) h1 (by omega))
    have hple := prf_le ls.length ls m true rfl (by omega)
    have HPK := hid (prf_ok ls.length ls m true rfl)
    have HV := hid (verL_prf (ls := ls) (m := m) h1 (by omega))
    have HT3 := hid (treeR_len (ls.take m))
    have HT7 := hid (treeR_len ls)
    have HTK := hid (show (ls.take m).length = m by rw [List.length_take]; omega)
    have HLT := hid (show ∀ l ∈ ls.take m, l.length ≤ 800000000 from fun l hl => HLEN.out l (List.mem_of_mem_take hl))
    rw [← hn] at HPL HV hple hc h20 h0 ⊢
    have HN := hid hn.symm
    clear hn hq hmq
    have HF := hid hb1
    have hmc : m ≤ c := by omega
    clear hb1
    go_wp2_with fail
    have HRL := hid ((HR.out.below HF.out).more HF.out.size)
    refine (Root_any m w1 (ls.take m) m A c w1.heap.size HTK.out (Nat.le_refl _) (HL.out.sha.below HF.out) (HRL.out.takeL m) (Nat.le_refl _) hmc (by omega) HLT.out).mono ?_
    rintro e w3 ⟨rfl, hb3⟩
    obtain ⟨rm, hrm⟩ : ∃ rm, rm = treeR (ls.take m) := ⟨_, rfl⟩
    rw [← hrm] at HT3 HV ⊢
    have h3 := HT3.out
    have HB3 := hid (bx_trans HF.out hb3)
    have hs13 := hb3.size
    clear hb3 hrm
    go_wp2_with (first
      | ((with_reducible refine wpAtC ?_); refine wpList_gives rfl (gives_buildKy (m := m) (S := fun v w' => v = .agg (kcell m rm).toArray ∧ w' = _) rfl rfl rfl h3 ⟨rfl, rfl⟩) ?_; rintro v4 w4 ⟨rfl, rfl⟩; simp only [Act.put, List.setIfInBounds_toArray, List.set_cons_succ, List.set_cons_zero])
      | ((with_reducible refine wpAtC ?_); refine wpList_alloc rfl _ rfl zeroKy ?_; intro g8 w5 hg8 hg8' hz8 hb5; simp only [Act.put, List.setIfInBounds_toArray, List.set_cons_succ, List.set_cons_zero])
      | ((with_reducible refine wpAtC ?_); refine wpList_store_agg rfl _ _ _ rfl _ _ rfl (kcell m rm).toArray rfl (aggKyS m h3) hz8 (szKy m 0 h3 (by decide)) (oneKy m rm) ?_; intro w6 hp6; simp only [Act.put]; rw [splKy m 0 h3 (by decide)] at hp6; have hA6 := hp6.blk; have hb36 := hb5.trans (hp6.below hg8)))
    have HB6 := hid (bx_trans HB3.out hb36)
    have hs16 := Nat.le_trans hs13 hb36.size
    clear hb36 hb5 hz8 hp6 HB3
    refine (Root_any n w6 ls n A c w1.heap.size HN.out (Nat.le_refl _) (HL.out.sha.below HB6.out) ((HR.out.below HB6.out).more HF.out.size) hs16 hc (by omega) HLEN.out).mono ?_
    rintro e w7 ⟨rfl, hb7⟩
    obtain ⟨rn, hrn⟩ : ∃ rn, rn = treeR ls := ⟨_, rfl⟩
    rw [← hrn] at HT7 HV ⊢
    have h7 := HT7.out
    have HB7 := hid (bx_trans HB6.out hb7)
    have hA7 := hA6.below hb7 hA6.lt
    clear hb7 hA6 HB6 hrn
    go_wp2_with (first
      | ((with_reducible refine wpAtC ?_); refine wpList_gives rfl (gives_buildKy (m := n) (S := fun v w' => v = .agg (kcell n rn).toArray ∧ w' = _) rfl rfl rfl h7 ⟨rfl, rfl⟩) ?_; rintro v8 w8 ⟨rfl, rfl⟩; simp only [Act.put, List.setIfInBounds_toArray, List.set_cons_succ, List.set_cons_zero])
      | ((with_reducible refine wpAtC ?_); refine wpList_alloc rfl _ rfl zeroKy ?_; intro g9 w9 hg9 hg9' hz9 hb9; simp only [Act.put, List.setIfInBounds_toArray, List.set_cons_succ, List.set_cons_zero])
      | ((with_reducible refine wpAtC ?_); refine wpList_store_agg rfl _ _ _ rfl _ _ rfl (kcell n rn).toArray rfl (aggKyS n h7) hz9 (szKy n 0 h7 (by decide)) (oneKy n rn) ?_; intro w10 hp10; simp only [Act.put]; rw [splKy n 0 h7 (by decide)] at hp10; have hB10 := hp10.blk; have hA10 := hp10.other (hA7.below hb9 hA7.lt) (by have := hA7.lt; omega); have hb10 := hb9.trans (hp10.below hg9)))
    have HB10 := hid (bx_trans HB7.out hb10)
    clear hb10 hb9 hz9 hp10 hA7 HB7
    refine (Proof_any w10 (HL.out.sha.below HB10.out) ls n A c m HN.out h1 h2 ((HR.out.below HB10.out).more HB10.out.size) hc (by omega) HLEN.out (by omega)).mono ?_
    rintro e w11 ⟨v11, rfl, hown, hb11⟩
    have hA11 := hA10.below hb11 hA10.lt
    have hB11 := hB10.below hb11 hB10.lt
    have HB11 := hid (bx_trans HB10.out hb11)
    obtain ⟨P, hP⟩ : ∃ P, P = prf ls m true := ⟨_, rfl⟩
    rw [← hP] at hown HPL hple HPK HV
    clear hb11 hA10 hB10 HB10 hP HRL HLT HTK HR HLEN HN
    have HLG := hid (fun w' => Long_any w' m n (by omega) (by omega))
    rw [← HPL.out] at HLG
    obtain ⟨A3, c3, rfl, hc3, hm3, _⟩ := own_form hown
    unfold maxLen at hm3
    have HO := hid hown
    clear hown
    have hca := kcell_size hA11
    have hcb := kcell_size hB11
    have hka := aggKy m h3
    have hkb := aggKy n h7
    go_wp2_with fail
    refine (HLG.out w11).mono ?_
    rintro e w12 ⟨rfl, hb12⟩
    have hA12 := hA11.below hb12 hA11.lt
    have hB12 := hB11.below hb12 hB11.lt
    have hla := blk_cells hA12
    have hlb := blk_cells hB12
    have HO12 := hid (own_keep HO.out hb12)
    have HB12 := hid (bx_trans HB11.out hb12)
    clear hca hcb hb12 hA11 hB11 HO HB11
    go_wp2_with (first
      | ((with_reducible refine wpAtC ?_); refine wpList_loadG rfl _ _ rfl _ _ rfl (kcell m rm) hka hla ?_; simp only [Act.put, List.setIfInBounds_toArray, List.set_cons_succ, List.set_cons_zero])
      | ((with_reducible refine wpAtC ?_); refine wpList_loadG rfl _ _ rfl _ _ rfl (kcell n rn) hkb hlb ?_; simp only [Act.put, List.setIfInBounds_toArray, List.set_cons_succ, List.set_cons_zero]))
    refine (Verify_any w12 (HL.out.below HB12.out) m n P.length c3 A3 rm rn P rfl (by omega) (by omega) h3 h7 HPK.out (own_rd HO12.out) hc3 (by omega) (by omega)).mono ?_
    rintro e w13 ⟨rfl, hb13⟩
    rw [HV.out]
    have hA13 := hA12.below hb13 hA12.lt
    have hB13 := hB12.below hb13 hB12.lt
    have HO13 := hid (own_keep HO12.out hb13)
    have HB13 := hid (bx_trans HB12.out hb13)
    clear hla hlb hb13 hA12 hB12 HO12 HB12
    have hno := nil_own w13 w13.heap.size 37 32
    have hrp := own_rd HO13.out
    have hlp : (P.flatten.map cb).length = P.length * 32 := by rw [List.length_map, hs_len HPK.out]
    have hr3 := kcell_root hA13
    have hah := aggHL h3
    have HNO := hid hno
    have HRP := hid hrp
    have HLP := hid hlp
    have HR3 := hid hr3
    clear hno hrp hlp hr3
    have h63 : 0 + P.length ≤ maxLen := by unfold maxLen; omega
    have hby : (0 + P.length) * 32 ≤ 140737488355328 := by omega
    have h63b : P.length + 1 ≤ maxLen := by unfold maxLen; omega
    have hbyb : (P.length + 1) * 32 ≤ 140737488355328 := by omega
    go_wp2_with (first
      | (at_builtin; refine wpList_app rfl _ _ _ rfl (.slice none 0 0) rfl _ _ _ rfl elHs HNO.out HRP.out HLP.out (one_cb _) h63 hby (Nat.le_refl _) ?_; intro v14 w14 hown14 hg14 hat14; have hb14 := own_below (Below.refl _ w13) HNO.out hg14; simp only [Nat.zero_add, List.nil_append] at hown14; obtain ⟨A14, c14, rfl, _, _, _⟩ := own_form hown14; have hr14 := kcell_root (hA13.below hb14 hA13.lt))
      | ((with_reducible refine wpAtC ?_); refine wpList_loadG rfl _ _ rfl _ _ rfl (rm.map cb) hah hr14 ?_; simp only [Act.put, List.setIfInBounds_toArray, List.set_cons_succ, List.set_cons_zero])
      | ((with_reducible refine wpAtC ?_); refine wpList_gives rfl (gives_slice1 _ _ rfl _ rfl elHs (cells_cb h3) (by decide) (S := fun v w' => v = .slice (some ⟨w14.heap.size, 0, none⟩) 1 1 ∧ w' = w14.alloc (.cells (Value.agg (rm.map cb).toArray).cells 37)) ⟨rfl, rfl⟩) ?_; rintro v15 w15 ⟨rfl, rfl⟩; have hown15 := own_keep hown14 (bx_alloc (Below.refl _ w14) (.cells (Value.agg (rm.map cb).toArray).cells 37)); have hb15 := bx_alloc hb14 (.cells (Value.agg (rm.map cb).toArray).cells 37); have rd15 := rd_of_row (w := w14.alloc (.cells (Value.agg (rm.map cb).toArray).cells 37)) (heap_new rfl) (xs := rm.map cb) rfl; simp only [Act.put, List.setIfInBounds_toArray, List.set_cons_succ, List.set_cons_zero])
      | (at_builtin; refine wpList_app rfl _ _ _ rfl _ rfl _ _ _ rfl elHs hown15 rd15 (len_cb h3) (one_cb _) h63b hbyb hb15.size ?_; intro v16 w16 hown16 hg16 hat16; have hb16 := own_below hb15 hown15 hg16; obtain ⟨A16, c16, rfl, hc16, hm16, _⟩ := own_form hown16; have hla := blk_cells (hA13.below hb16 hA13.lt); have hlb := blk_cells (hB13.below hb16 hB13.lt))
      | ((with_reducible refine wpAtC ?_); refine wpList_loadG rfl _ _ rfl _ _ rfl (kcell m rm) hka hla ?_; simp only [Act.put, List.setIfInBounds_toArray, List.set_cons_succ, List.set_cons_zero])
      | ((with_reducible refine wpAtC ?_); refine wpList_loadG rfl _ _ rfl _ _ rfl (kcell n rn) hkb hlb ?_; simp only [Act.put, List.setIfInBounds_toArray, List.set_cons_succ, List.set_cons_zero]))
    unfold maxLen at hm16
    have HPM := hid (getD_mem32 HPK.out rm h3)
    have hpml : (P ++ [rm]).length = P.length + 1 := by simp
    have hrd16 : Rd w16 w16.heap.size A16 ((P ++ [rm]).flatten.map cb) := by
      have := own_rd hown16
      rw [List.flatten_append, List.map_append]
      simpa using this
    have HV2 := hid (verL_short (m := m) (n := n) (old := rm) (now := rn) (path := P ++ [rm]) h1 h2 (by rw [← HPL.out]; simp))
    have HB16 := hid (HB13.out.trans (hb16.mono HB13.out.size))
    have HO16 := hid (own_keep HO13.out hb16)
    have hA16 := hA13.below hb16 hA13.lt
    have hB16 := hB13.below hb16 hB13.lt
    clear hla hlb hb16 hA13 hB13 HO13 HB13 hown16 hg16 hat16 hown15 hb15 hg14 hat14 hown14 hb14 hr14 HNO HRP HLP HR3 h63 hby h63b hbyb
    refine (Verify_any w16 (HL.out.below HB16.out) m n (P.length + 1) c16 A16 rm rn (P ++ [rm]) hpml (by omega) (by omega) h3 h7 HPM.out hrd16 hc16 (by omega) (by omega)).mono ?_
    rintro e w17 ⟨rfl, hb17⟩
    rw [HV2.out]
    have hA17 := hA16.below hb17 hA16.lt
    have hB17 := hB16.below hb17 hB16.lt
    have HO17 := hid (own_keep HO16.out hb17)
    have HB17 := hid (bx_trans HB16.out hb17)
    clear hb17 hA16 hB16 HO16 HB16 hpml hrd16 HPM HV2
    go_wp2_with fail
    obtain rfl := HC18.out
    clear HC18
    have hka2 := hka
    by_cases hp0 : P.length = 0
    · have hpz : ((P.length : Int) == 0) = true := by rw [hp0]; rfl
      clear hp0
      refine wp_flow (by kernel_rfl) [0, 1, 3, 7, 15, 15, 15, 79, 255, 511, 1023, 2047, 2047, 8191, 16383, 32767, 65535, 131071] 17 [false, false, false, false, false, false, false, false, false, false, false, false, false, false, false, false, false, false, false, false, false, false, false, false, false, false, false, false, false, false, false, false, false, false, false, false, false, false, false, false, false, false, false, false, false, false, false, false, false, false, false, false, false, false, false, false, false, false, false, false, false, false, false, false, false, false, false, false, false, false, false, false, false, false, false, false, false, false, false, false, false, false, true, true, true, true, true, true, true, true, true, true, true, true, true, true, true, true, true] (by kernel_rfl) (by decide) (by kernel_rfl) [FP.eq (.slice A3 P.length c3), FP.eq (.int .i64 (P.length : Int)), FP.eq (.bool true), FP.eq (.bool true), FP.any, FP.any, FP.any, FP.any, FP.any, FP.any, FP.eq undef, FP.any, FP.any, FP.any, FP.any, FP.any, FP.eq (.bool true)] ?_ ?_
      · refine allFrom_cons ?_ ?_
        · intro a_ w_ hk_
          have h10 : a_.eval (.tmp 10) = .slice A3 P.length c3 := hk_.old 10 (by kernel_rfl)
          have hx_ := hk_.ext
          clear hk_
          refine flow_plain rfl ?_
          exact gives_move rfl ⟨Below.refl _ _, h10⟩
        refine allFrom_cons ?_ ?_
        · intro a_ w_ hk_
          have h82 : a_.eval (.tmp 82) = (.slice A3 P.length c3) := hk_.got 0 82 _ (by kernel_rfl) rfl rfl
          have hx_ := hk_.ext
          clear hk_
          refine flow_plain rfl ?_
          unfold gives
          have hc_ : ∀ v, a_.eval (.const v) = v := fun _ => rfl
          have hn_ : ∀ f, a_.eval (.func f) = .func (.func f) #[] #[] := fun _ => rfl
          generalize a_.eval = ρ_ at *
          go_simp
          exact ⟨Below.refl _ _, rfl⟩
        refine allFrom_cons ?_ ?_
        · intro a_ w_ hk_
          have h83 : a_.eval (.tmp 83) = (.int .i64 (P.length : Int)) := hk_.got 1 83 _ (by kernel_rfl) rfl rfl
          have hx_ := hk_.ext
          clear hk_
          refine flow_plain rfl ?_
          unfold gives
          have hc_ : ∀ v, a_.eval (.const v) = v := fun _ => rfl
          have hn_ : ∀ f, a_.eval (.func f) = .func (.func f) #[] #[] := fun _ => rfl
          generalize a_.eval = ρ_ at *
          go_simp
          exact ⟨Below.refl _ _, rfl⟩
        refine allFrom_cons ?_ ?_
        · intro a_ w_ hk_
          have h84 : a_.eval (.tmp 84) = (.bool true) := hk_.got 2 84 _ (by kernel_rfl) rfl rfl
          have hx_ := hk_.ext
          clear hk_
          refine flow_plain rfl ?_
          exact gives_move rfl ⟨Below.refl _ _, h84⟩
        refine allFrom_cons ?_ ?_
        · intro a_ w_ hk_
          have h8 : a_.eval (.tmp 8) = .pointer (some ⟨g8, 0, none⟩) := hk_.old 8 (by kernel_rfl)
          have hg_ : a_.eval (.tmp 85) = .bool true := hk_.got 3 85 _ (by kernel_rfl) rfl rfl
          have hy_ := hk_.want 3 _ 85 true rfl rfl hg_
          have hx_ := hk_.ext
          clear hk_
          exact flow_skip rfl hy_ (by decide) trivial
        refine allFrom_cons ?_ ?_
        · intro a_ w_ hk_
          have h9 : a_.eval (.tmp 9) = .pointer (some ⟨g9, 0, none⟩) := hk_.old 9 (by kernel_rfl)
          have hg_ : a_.eval (.tmp 85) = .bool true := hk_.got 3 85 _ (by kernel_rfl) rfl rfl
          have hy_ := hk_.want 3 _ 85 true rfl rfl hg_
          have hx_ := hk_.ext
          clear hk_
          exact flow_skip rfl hy_ (by decide) trivial
        refine allFrom_cons ?_ ?_
        · intro a_ w_ hk_
          have h10 : a_.eval (.tmp 10) = .slice A3 P.length c3 := hk_.old 10 (by kernel_rfl)
          have hg_ : a_.eval (.tmp 85) = .bool true := hk_.got 3 85 _ (by kernel_rfl) rfl rfl
          have hy_ := hk_.want 3 _ 85 true rfl rfl hg_
          have hx_ := hk_.ext
          clear hk_
          exact flow_skip rfl hy_ (by decide) trivial
        refine allFrom_cons ?_ ?_
        · intro a_ w_ hk_
          have hg_ : a_.eval (.tmp 85) = .bool true := hk_.got 3 85 _ (by kernel_rfl) rfl rfl
          have hy_ := hk_.want 3 _ 85 true rfl rfl hg_
          have hx_ := hk_.ext
          clear hk_
          exact flow_skip rfl hy_ (by decide) trivial
        refine allFrom_cons ?_ ?_
        · intro a_ w_ hk_
          have hg_ : a_.eval (.tmp 85) = .bool true := hk_.got 3 85 _ (by kernel_rfl) rfl rfl
          have hy_ := hk_.want 3 _ 85 true rfl rfl hg_
          have hx_ := hk_.ext
          clear hk_
          exact flow_skip rfl hy_ (by decide) trivial
        refine allFrom_cons ?_ ?_
        · intro a_ w_ hk_
          have hg_ : a_.eval (.tmp 85) = .bool true := hk_.got 3 85 _ (by kernel_rfl) rfl rfl
          have hy_ := hk_.want 3 _ 85 true rfl rfl hg_
          have hx_ := hk_.ext
          clear hk_
          exact flow_skip rfl hy_ (by decide) trivial
        refine allFrom_cons ?_ ?_
        · intro a_ w_ hk_
          have hg_ : a_.eval (.tmp 85) = .bool true := hk_.got 3 85 _ (by kernel_rfl) rfl rfl
          have hy_ := hk_.want 3 _ 85 true rfl rfl hg_
          have hx_ := hk_.ext
          clear hk_
          exact flow_skip rfl hy_ (by decide) rfl
        refine allFrom_cons ?_ ?_
        · intro a_ w_ hk_
          have h8 : a_.eval (.tmp 8) = .pointer (some ⟨g8, 0, none⟩) := hk_.old 8 (by kernel_rfl)
          have hg_ : a_.eval (.tmp 92) = undef := hk_.got 10 92 _ (by kernel_rfl) rfl rfl
          have hy_ := hk_.wantU 10 _ 92 rfl rfl hg_
          clear hk_
          exact flow_skipU rfl hy_ trivial
        refine allFrom_cons ?_ ?_
        · intro a_ w_ hk_
          have h9 : a_.eval (.tmp 9) = .pointer (some ⟨g9, 0, none⟩) := hk_.old 9 (by kernel_rfl)
          have hg_ : a_.eval (.tmp 92) = undef := hk_.got 10 92 _ (by kernel_rfl) rfl rfl
          have hy_ := hk_.wantU 10 _ 92 rfl rfl hg_
          clear hk_
          exact flow_skipU rfl hy_ trivial
        refine allFrom_cons ?_ ?_
        · intro a_ w_ hk_
          have hg_ : a_.eval (.tmp 92) = undef := hk_.got 10 92 _ (by kernel_rfl) rfl rfl
          have hy_ := hk_.wantU 10 _ 92 rfl rfl hg_
          clear hk_
          exact flow_skipU rfl hy_ trivial
        refine allFrom_cons ?_ ?_
        · intro a_ w_ hk_
          have hg_ : a_.eval (.tmp 92) = undef := hk_.got 10 92 _ (by kernel_rfl) rfl rfl
          have hy_ := hk_.wantU 10 _ 92 rfl rfl hg_
          clear hk_
          exact flow_skipU rfl hy_ trivial
        refine allFrom_cons ?_ ?_
        · intro a_ w_ hk_
          have h92 : a_.eval (.tmp 92) = undef := hk_.got 10 92 _ (by kernel_rfl) rfl rfl
          have hg_ : a_.eval (.tmp 85) = .bool true := hk_.got 3 85 _ (by kernel_rfl) rfl rfl
          have hy_ := hk_.want 3 _ 85 true rfl rfl hg_
          have hx_ := hk_.ext
          clear hk_
          exact flow_skip rfl hy_ (by decide) trivial
        refine allFrom_cons ?_ ?_
        · intro a_ w_ hk_
          have h85 : a_.eval (.tmp 85) = (.bool true) := hk_.got 3 85 _ (by kernel_rfl) rfl rfl
          have hx_ := hk_.ext
          clear hk_
          refine flow_plain rfl ?_
          exact gives_pick rfl h85 ⟨Below.refl _ _, rfl⟩
        exact allFrom_nil
      intro f_ w_ hx_ hf_
      have h82 : f_ 82 = (.slice A3 P.length c3) := hf_ 0 82 _ (by decide) rfl rfl
      have h83 : f_ 83 = (.int .i64 (P.length : Int)) := hf_ 1 83 _ (by decide) rfl rfl
      have h84 : f_ 84 = (.bool true) := hf_ 2 84 _ (by decide) rfl rfl
      have h85 : f_ 85 = (.bool true) := hf_ 3 85 _ (by decide) rfl rfl
      have h92 : f_ 92 = undef := hf_ 10 92 _ (by decide) rfl rfl
      have h98 : f_ 98 = (.bool true) := hf_ 16 98 _ (by decide) rfl rfl
      simp only [mix, List.drop_succ_cons, List.drop_zero, h82, h83, h84, h85, h92, h98]
      clear h82 h83 h84 h85 h92 h98
      clear hf_
      have HFF := hid (bx_trans HB17.out hx_)
      clear hx_
      go_wp2
      go_ret
      exact ⟨rfl, HFF.out⟩
    · have hpz : ((P.length : Int) == 0) = false := by simp; intro h; rw [h] at hp0; exact hp0 rfl
      obtain ⟨b, cap, he3, _, hbl, hcp, _⟩ := own_block HO17.out (Nat.pos_of_ne_zero hp0)
      injection he3 with he3 _ he4
      subst he3 he4
      have hp1 : (1 : Int) ≤ (P.length : Int) := by omega
      have hp1n : 1 ≤ P.length := by omega
      have HPD := hid (show ∀ x ∈ P.drop 1, x.length = 32 from fun x hx => HPK.out x (List.mem_of_mem_drop hx))
      have HPDL := hid (show (P.drop 1).length = P.length - 1 by rw [List.length_drop])
      have HRD := hid (own_rd HO17.out)
      obtain ⟨D, hD⟩ : ∃ D, D = (P.drop 1).flatten.map cb := ⟨_, rfl⟩
      have HX : Hid (Rd w17 w17.heap.size (if c3 = 1 then some ⟨b, 0, none⟩ else some ⟨b, 32, none⟩) D) := hid (by
        rw [hD]
        by_cases hc1 : c3 = 1
        · rw [if_pos hc1]
          have h0 : P.drop 1 = [] := List.drop_eq_nil_of_le (by omega)
          rw [h0]
          exact .inl rfl
        · rw [if_neg hc1]
          have := rd_dropH HRD.out HPK.out 1
          simpa using this)
      have HDD := hid hD
      clear hD
      have HS1 := hid (verL_short (m := m) (n := n) (old := rm) (now := rn) (path := P.drop 1) h1 h2 (by rw [HPDL.out, ← HPL.out]; omega))
      have HS0 := hid (verL_short (m := m) (n := n) (old := rm) (now := rn) (path := []) h1 h2 (by rw [← HPL.out]; simp; omega))
      clear hp0
      refine wp_flow (by kernel_rfl) [0, 1, 3, 7, 15, 15, 15, 79, 255, 511, 1023, 2047, 2047, 8191, 16383, 32767, 65535, 131071] 17 [false, false, false, false, false, false, false, false, false, false, false, false, false, false, false, false, false, false, false, false, false, false, false, false, false, false, false, false, false, false, false, false, false, false, false, false, false, false, false, false, false, false, false, false, false, false, false, false, false, false, false, false, false, false, false, false, false, false, false, false, false, false, false, false, false, false, false, false, false, false, false, false, false, false, false, false, false, false, false, false, false, false, true, true, true, true, true, true, true, true, true, true, true, true, true, true, true, true, true] (by kernel_rfl) (by decide) (by kernel_rfl) [FP.eq (.slice (some ⟨b, 0, none⟩) P.length c3), FP.eq (.int .i64 (P.length : Int)), FP.eq (.bool false), FP.eq (.bool false), FP.eq (.agg (kcell m rm).toArray), FP.eq (.agg (kcell n rn).toArray), FP.eq (.slice (some ⟨b, 0, none⟩) P.length c3), FP.slc (P.length - 1) D, FP.eq (.int .i64 20), FP.eq (.bool true), FP.eq (.bool true), FP.eq (.agg (kcell m rm).toArray), FP.eq (.agg (kcell n rn).toArray), FP.eq (.int .i64 20), FP.eq (.bool true), FP.eq (.bool true), FP.eq (.bool true)] ?_ ?_
      · refine allFrom_cons ?_ ?_
        · intro a_ w_ hk_
          have h10 : a_.eval (.tmp 10) = .slice (some ⟨b, 0, none⟩) P.length c3 := hk_.old 10 (by kernel_rfl)
          have hx_ := hk_.ext
          clear hk_
          refine flow_plain rfl ?_
          exact gives_move rfl ⟨Below.refl _ _, h10⟩
        refine allFrom_cons ?_ ?_
        · intro a_ w_ hk_
          have h82 : a_.eval (.tmp 82) = (.slice (some ⟨b, 0, none⟩) P.length c3) := hk_.got 0 82 _ (by kernel_rfl) rfl rfl
          have hx_ := hk_.ext
          clear hk_
          refine flow_plain rfl ?_
          unfold gives
          have hc_ : ∀ v, a_.eval (.const v) = v := fun _ => rfl
          have hn_ : ∀ f, a_.eval (.func f) = .func (.func f) #[] #[] := fun _ => rfl
          generalize a_.eval = ρ_ at *
          go_simp
          exact ⟨Below.refl _ _, rfl⟩
        refine allFrom_cons ?_ ?_
        · intro a_ w_ hk_
          have h83 : a_.eval (.tmp 83) = (.int .i64 (P.length : Int)) := hk_.got 1 83 _ (by kernel_rfl) rfl rfl
          have hx_ := hk_.ext
          clear hk_
          refine flow_plain rfl ?_
          unfold gives
          have hc_ : ∀ v, a_.eval (.const v) = v := fun _ => rfl
          have hn_ : ∀ f, a_.eval (.func f) = .func (.func f) #[] #[] := fun _ => rfl
          generalize a_.eval = ρ_ at *
          go_simp
          exact ⟨Below.refl _ _, rfl⟩
        refine allFrom_cons ?_ ?_
        · intro a_ w_ hk_
          have h84 : a_.eval (.tmp 84) = (.bool false) := hk_.got 2 84 _ (by kernel_rfl) rfl rfl
          have hx_ := hk_.ext
          clear hk_
          refine flow_plain rfl ?_
          exact gives_move rfl ⟨Below.refl _ _, h84⟩
        refine allFrom_cons ?_ ?_
        · intro a_ w_ hk_
          have h8 : a_.eval (.tmp 8) = .pointer (some ⟨g8, 0, none⟩) := hk_.old 8 (by kernel_rfl)
          have hg_ : a_.eval (.tmp 85) = .bool false := hk_.got 3 85 _ (by kernel_rfl) rfl rfl
          have hy_ := hk_.want 3 _ 85 false rfl rfl hg_
          have hx_ := hk_.ext
          clear hk_
          refine flow_want rfl hy_ ?_
          exact gives_ldC rfl h8 hka (blk_cells (hA17.below hx_ hA17.lt)) ⟨Below.refl _ _, rfl⟩
        refine allFrom_cons ?_ ?_
        · intro a_ w_ hk_
          have h9 : a_.eval (.tmp 9) = .pointer (some ⟨g9, 0, none⟩) := hk_.old 9 (by kernel_rfl)
          have hg_ : a_.eval (.tmp 85) = .bool false := hk_.got 3 85 _ (by kernel_rfl) rfl rfl
          have hy_ := hk_.want 3 _ 85 false rfl rfl hg_
          have hx_ := hk_.ext
          clear hk_
          refine flow_want rfl hy_ ?_
          exact gives_ldC rfl h9 hkb (blk_cells (hB17.below hx_ hB17.lt)) ⟨Below.refl _ _, rfl⟩
        refine allFrom_cons ?_ ?_
        · intro a_ w_ hk_
          have h10 : a_.eval (.tmp 10) = .slice (some ⟨b, 0, none⟩) P.length c3 := hk_.old 10 (by kernel_rfl)
          have hg_ : a_.eval (.tmp 85) = .bool false := hk_.got 3 85 _ (by kernel_rfl) rfl rfl
          have hy_ := hk_.want 3 _ 85 false rfl rfl hg_
          have hx_ := hk_.ext
          clear hk_
          refine flow_want rfl hy_ ?_
          exact gives_move rfl ⟨Below.refl _ _, h10⟩
        refine allFrom_cons ?_ ?_
        · intro a_ w_ hk_
          have h88 : a_.eval (.tmp 88) = (.slice (some ⟨b, 0, none⟩) P.length c3) := hk_.got 6 88 _ (by kernel_rfl) rfl rfl
          have hg_ : a_.eval (.tmp 85) = .bool false := hk_.got 3 85 _ (by kernel_rfl) rfl rfl
          have hy_ := hk_.want 3 _ 85 false rfl rfl hg_
          have hx_ := hk_.ext
          clear hk_
          refine flow_want rfl hy_ ?_
          unfold gives
          have hc_ : ∀ v, a_.eval (.const v) = v := fun _ => rfl
          have hn_ : ∀ f, a_.eval (.func f) = .func (.func f) #[] #[] := fun _ => rfl
          clear hy_ hg_
          generalize a_.eval = ρ_ at *
          go_simp
          exact ⟨Below.refl _ _, _, _, rfl, by omega, by omega, (HX.out.below hx_).more hx_.size⟩
        refine allFrom_cons ?_ ?_
        · intro a_ w_ hk_
          have h86 : a_.eval (.tmp 86) = (.agg (kcell m rm).toArray) := hk_.got 4 86 _ (by kernel_rfl) rfl rfl
          have h87 : a_.eval (.tmp 87) = (.agg (kcell n rn).toArray) := hk_.got 5 87 _ (by kernel_rfl) rfl rfl
          have h89 : (FP.slc (P.length - 1) D).p (a_.eval (.tmp 89)) w_ := hk_.got 7 89 _ (by kernel_rfl) rfl rfl
          have hg_ : a_.eval (.tmp 85) = .bool false := hk_.got 3 85 _ (by kernel_rfl) rfl rfl
          have hy_ := hk_.want 3 _ 85 false rfl rfl hg_
          have hx_ := hk_.ext
          clear hk_
          refine flow_want rfl hy_ ?_
          unfold gives
          have hc_ : ∀ v, a_.eval (.const v) = v := fun _ => rfl
          have hn_ : ∀ f, a_.eval (.func f) = .func (.func f) #[] #[] := fun _ => rfl
          clear hy_ hg_
          obtain ⟨A89, c89, h89, r89⟩ := h89
          obtain ⟨q1, q2, r89⟩ := r89
          generalize a_.eval = ρ_ at *
          go_simp
          exact (Verify_any w_ (HL.out.below (bx_trans HB17.out hx_)) m n (P.length - 1) c89 A89 rm rn (P.drop 1) HPDL.out (by omega) (by omega) h3 h7 HPD.out (by rw [← HDD.out]; exact r89) (by omega) (by omega) (by omega)).mono fun e w' hh => ⟨_, hh.1, hh.2, by rw [HS1.out]; rfl⟩
        refine allFrom_cons ?_ ?_
        · intro a_ w_ hk_
          have h90 : a_.eval (.tmp 90) = (.int .i64 20) := hk_.got 8 90 _ (by kernel_rfl) rfl rfl
          have hg_ : a_.eval (.tmp 85) = .bool false := hk_.got 3 85 _ (by kernel_rfl) rfl rfl
          have hy_ := hk_.want 3 _ 85 false rfl rfl hg_
          have hx_ := hk_.ext
          clear hk_
          refine flow_want rfl hy_ ?_
          unfold gives
          have hc_ : ∀ v, a_.eval (.const v) = v := fun _ => rfl
          have hn_ : ∀ f, a_.eval (.func f) = .func (.func f) #[] #[] := fun _ => rfl
          clear hy_ hg_
          generalize a_.eval = ρ_ at *
          go_simp
          exact ⟨Below.refl _ _, rfl⟩
        refine allFrom_cons ?_ ?_
        · intro a_ w_ hk_
          have h91 : a_.eval (.tmp 91) = (.bool true) := hk_.got 9 91 _ (by kernel_rfl) rfl rfl
          have hg_ : a_.eval (.tmp 85) = .bool false := hk_.got 3 85 _ (by kernel_rfl) rfl rfl
          have hy_ := hk_.want 3 _ 85 false rfl rfl hg_
          have hx_ := hk_.ext
          clear hk_
          refine flow_want rfl hy_ ?_
          exact gives_move rfl ⟨Below.refl _ _, h91⟩
        refine allFrom_cons ?_ ?_
        · intro a_ w_ hk_
          have h8 : a_.eval (.tmp 8) = .pointer (some ⟨g8, 0, none⟩) := hk_.old 8 (by kernel_rfl)
          have hg_ : a_.eval (.tmp 92) = .bool true := hk_.got 10 92 _ (by kernel_rfl) rfl rfl
          have hy_ := hk_.want 10 _ 92 true rfl rfl hg_
          have hx_ := hk_.ext
          clear hk_
          refine flow_want rfl hy_ ?_
          exact gives_ldC rfl h8 hka (blk_cells (hA17.below hx_ hA17.lt)) ⟨Below.refl _ _, rfl⟩
        refine allFrom_cons ?_ ?_
        · intro a_ w_ hk_
          have h9 : a_.eval (.tmp 9) = .pointer (some ⟨g9, 0, none⟩) := hk_.old 9 (by kernel_rfl)
          have hg_ : a_.eval (.tmp 92) = .bool true := hk_.got 10 92 _ (by kernel_rfl) rfl rfl
          have hy_ := hk_.want 10 _ 92 true rfl rfl hg_
          have hx_ := hk_.ext
          clear hk_
          refine flow_want rfl hy_ ?_
          exact gives_ldC rfl h9 hkb (blk_cells (hB17.below hx_ hB17.lt)) ⟨Below.refl _ _, rfl⟩
        refine allFrom_cons ?_ ?_
        · intro a_ w_ hk_
          have h93 : a_.eval (.tmp 93) = (.agg (kcell m rm).toArray) := hk_.got 11 93 _ (by kernel_rfl) rfl rfl
          have h94 : a_.eval (.tmp 94) = (.agg (kcell n rn).toArray) := hk_.got 12 94 _ (by kernel_rfl) rfl rfl
          have hg_ : a_.eval (.tmp 92) = .bool true := hk_.got 10 92 _ (by kernel_rfl) rfl rfl
          have hy_ := hk_.want 10 _ 92 true rfl rfl hg_
          have hx_ := hk_.ext
          clear hk_
          refine flow_want rfl hy_ ?_
          unfold gives
          have hc_ : ∀ v, a_.eval (.const v) = v := fun _ => rfl
          have hn_ : ∀ f, a_.eval (.func f) = .func (.func f) #[] #[] := fun _ => rfl
          clear hy_ hg_
          generalize a_.eval = ρ_ at *
          go_simp
          exact (Verify_any w_ (HL.out.below (bx_trans HB17.out hx_)) m n 0 0 none rm rn [] rfl (by omega) (by omega) h3 h7 (fun x hx => by cases hx) (.inl rfl) (by omega) (by omega) (by omega)).mono fun e w' hh => ⟨_, hh.1, hh.2, by rw [HS0.out]; rfl⟩
        refine allFrom_cons ?_ ?_
        · intro a_ w_ hk_
          have h95 : a_.eval (.tmp 95) = (.int .i64 20) := hk_.got 13 95 _ (by kernel_rfl) rfl rfl
          have hg_ : a_.eval (.tmp 92) = .bool true := hk_.got 10 92 _ (by kernel_rfl) rfl rfl
          have hy_ := hk_.want 10 _ 92 true rfl rfl hg_
          have hx_ := hk_.ext
          clear hk_
          refine flow_want rfl hy_ ?_
          unfold gives
          have hc_ : ∀ v, a_.eval (.const v) = v := fun _ => rfl
          have hn_ : ∀ f, a_.eval (.func f) = .func (.func f) #[] #[] := fun _ => rfl
          clear hy_ hg_
          generalize a_.eval = ρ_ at *
          go_simp
          exact ⟨Below.refl _ _, rfl⟩
        refine allFrom_cons ?_ ?_
        · intro a_ w_ hk_
          have h92 : a_.eval (.tmp 92) = (.bool true) := hk_.got 10 92 _ (by kernel_rfl) rfl rfl
          have h96 : a_.eval (.tmp 96) = (.bool true) := hk_.got 14 96 _ (by kernel_rfl) rfl rfl
          have hg_ : a_.eval (.tmp 85) = .bool false := hk_.got 3 85 _ (by kernel_rfl) rfl rfl
          have hy_ := hk_.want 3 _ 85 false rfl rfl hg_
          have hx_ := hk_.ext
          clear hk_
          refine flow_want rfl hy_ ?_
          exact gives_pick rfl h92 ⟨Below.refl _ _, h96⟩
        refine allFrom_cons ?_ ?_
        · intro a_ w_ hk_
          have h85 : a_.eval (.tmp 85) = (.bool false) := hk_.got 3 85 _ (by kernel_rfl) rfl rfl
          have h97 : a_.eval (.tmp 97) = (.bool true) := hk_.got 15 97 _ (by kernel_rfl) rfl rfl
          have hx_ := hk_.ext
          clear hk_
          refine flow_plain rfl ?_
          exact gives_pick rfl h85 ⟨Below.refl _ _, h97⟩
        exact allFrom_nil
      intro f_ w_ hx_ hf_
      have h82 : f_ 82 = (.slice (some ⟨b, 0, none⟩) P.length c3) := hf_ 0 82 _ (by decide) rfl rfl
      have h83 : f_ 83 = (.int .i64 (P.length : Int)) := hf_ 1 83 _ (by decide) rfl rfl
      have h84 : f_ 84 = (.bool false) := hf_ 2 84 _ (by decide) rfl rfl
      have h85 : f_ 85 = (.bool false) := hf_ 3 85 _ (by decide) rfl rfl
      have h86 : f_ 86 = (.agg (kcell m rm).toArray) := hf_ 4 86 _ (by decide) rfl rfl
      have h87 : f_ 87 = (.agg (kcell n rn).toArray) := hf_ 5 87 _ (by decide) rfl rfl
      have h88 : f_ 88 = (.slice (some ⟨b, 0, none⟩) P.length c3) := hf_ 6 88 _ (by decide) rfl rfl
      have h89 : (FP.slc (P.length - 1) D).p (f_ 89) w_ := hf_ 7 89 _ (by decide) rfl rfl
      have h90 : f_ 90 = (.int .i64 20) := hf_ 8 90 _ (by decide) rfl rfl
      have h91 : f_ 91 = (.bool true) := hf_ 9 91 _ (by decide) rfl rfl
      have h92 : f_ 92 = (.bool true) := hf_ 10 92 _ (by decide) rfl rfl
      have h93 : f_ 93 = (.agg (kcell m rm).toArray) := hf_ 11 93 _ (by decide) rfl rfl
      have h94 : f_ 94 = (.agg (kcell n rn).toArray) := hf_ 12 94 _ (by decide) rfl rfl
      have h95 : f_ 95 = (.int .i64 20) := hf_ 13 95 _ (by decide) rfl rfl
      have h96 : f_ 96 = (.bool true) := hf_ 14 96 _ (by decide) rfl rfl
      have h97 : f_ 97 = (.bool true) := hf_ 15 97 _ (by decide) rfl rfl
      have h98 : f_ 98 = (.bool true) := hf_ 16 98 _ (by decide) rfl rfl
      simp only [mix, List.drop_succ_cons, List.drop_zero, h82, h83, h84, h85, h86, h87, h88, h90, h91, h92, h93, h94, h95, h96, h97, h98]
      clear h82 h83 h84 h85 h86 h87 h88 h90 h91 h92 h93 h94 h95 h96 h97 h98
      clear hf_
      have HFF := hid (bx_trans HB17.out hx_)
      clear hx_
      go_wp2
      go_ret
      exact ⟨rfl, HFF.out⟩
end Go.Proofs.YtjkolpioglpigaaDoor
