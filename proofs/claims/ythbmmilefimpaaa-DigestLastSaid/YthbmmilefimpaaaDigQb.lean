
/- DigestLast's walk: few keys -/
import Derived.Test.YthbmmilefimpaaaDigQ
namespace Go.Proofs.Ythbmmilefimpaaa
open Go.RowKit Go.Maps
set_option linter.unusedVariables false
set_option maxRecDepth 10000 in
set_option maxHeartbeats 2000000 in
theorem DigestLast_few (w : World) (x : Int) (hx : (Lit.int .u8 x).wf = true) (y : Int) (hy : (Lit.int .u8 y).wf = true) (n : Nat) (hxn : x % 50 = (n : Int)) (hcase : 0 < n ∧ n ≤ 32) :
    Calls Try.prog 7 #[.int .u8 x, .int .u8 y] w fun e w' => e = .returned (.bool true) ∧ Below w.heap.size w w' := by
  have hxb := bounds_u8 hx
  have hyb := bounds_u8 hy
  obtain ⟨m, hm⟩ : ∃ m, m = y.toNat % 50 := ⟨_, rfl⟩
  have hym : y % 50 = (m : Int) := by omega
  have hn50 : n < 50 := by omega
  have hm50 : m < 50 := by omega
  have hn8 : IntKind.u8.wrap (n : Int) = (n : Int) := by simp [IntKind.wrap, IntKind.bits, IntKind.signed]; omega
  have hm8 : IntKind.u8.wrap (m : Int) = (m : Int) := by simp [IntKind.wrap, IntKind.bits, IntKind.signed]; omega
  have hn64 : IntKind.i64.wrap (n : Int) = (n : Int) := wr_i64 _ (by omega) (by omega)
  have hm64 : IntKind.i64.wrap (m : Int) = (m : Int) := wr_i64 _ (by omega) (by omega)
  have HC := hid hcase
  clear hx hy hm hcase
  go_enter Try.func7, Try.ntmps7
  go_wp2_with fail
  refine (awake_any w).mono ?_
  rintro e w1 ⟨rfl, hb1⟩
  go_wp2
  go_loopw [8, 10] (fun v j wr => ∃ (i : Nat), i ≤ n ∧ j = .int .i64 i ∧ wr.ownsRow w1.heap.size 54 33 v (keysN i).length ((keysN i).map kc).flatten ∧ Below w1.heap.size w1 wr) (fun _ j _ => n - (intOf j).toNat)
  case atStart => exact ⟨0, by omega, rfl, World.ownsRow_nil _ _ _ _, Below.refl _ _⟩
  case round =>
    obtain ⟨i, hi, rfl, hown, hbr⟩ := hrel
    obtain ⟨A9, c9, rfl, _, _, _⟩ := own_form hown
    rename World => wo
    by_cases hlt : i < n
    · have hok := keyN_ok (i := i) (by omega)
      have hlen : (keysN i).length ≤ 50 := by rw [keysN_len]; omega
      have hiw : IntKind.u64.wrap (i : Int) = (i : Int) := by simp [IntKind.wrap, IntKind.bits, IntKind.signed]; omega
      have HS := hid (keysN_snoc i)
      clear hxn hym
      go_wp2_with (first
        | (with_reducible refine wpAt ?_; refine buildKN rfl rfl rfl ?_; simp only [Act.put, List.setIfInBounds_toArray, List.set_cons_succ, List.set_cons_zero])
        | (with_reducible refine wpAt ?_; refine sl1K rfl _ rfl hok rfl ?_; intro g7 w7 hg7 hblk7 hb7; have hr7 := rd_blk hblk7; have hown7 := own_keep hown hb7; have hb07 := bx_trans hbr hb7; simp only [Act.put, List.setIfInBounds_toArray, List.set_cons_succ, List.set_cons_zero])
        | (at_builtin; refine wpList_app rfl _ _ _ rfl (Value.slice A9 (keysN i).length c9) rfl _ _ _ rfl elK hown7 hr7 (by rw [kc_len hok]) (kc_one _) (by unfold maxLen; omega) (by omega) hb07.size ?_; intro v8 w8 hown8 hgr8 hv8; have hb08 := own_below hb07 hown7 hgr8))
      go_roundw
      case rel => exact ⟨i + 1, by omega, by go_num, by rw [HS.out, List.length_append, List.map_append, List.flatten_append]; simpa using hown8, hb08⟩
      case measure => simp [intOf]; omega
    · obtain rfl : i = n := by omega
      have hK := own_more hown (Nat.zero_le _)
      have hb0 := bx_trans hb1 hbr
      clear hown hbr
      go_wp2
      go_loopw [9, 11] (fun v j wr => ∃ (k : Nat), k ≤ m ∧ j = .int .i64 k ∧ wr.ownsRow wo.heap.size 52 32 v (hashesN k).length ((hashesN k).map hc).flatten ∧ Below wo.heap.size wo wr) (fun _ j _ => m - (intOf j).toNat)
      case atStart => exact ⟨0, by omega, rfl, World.ownsRow_nil _ _ _ _, Below.refl _ _⟩
      case round =>
        obtain ⟨k, hk, rfl, hown, hbr⟩ := hrel
        obtain ⟨A8, c8, rfl, _, _, _⟩ := own_form hown
        rename World => wp
        by_cases hlk : k < m
        · have hok := hashB_ok k
          have hlen : (hashesN k).length ≤ 50 := by rw [hashesN_len]; omega
          have hk8 : IntKind.u8.wrap (k : Int) = (k : Int) := by simp [IntKind.wrap, IntKind.bits, IntKind.signed]; omega
          have hk256 : k < 256 := by omega
          have HS := hid (hashesN_snoc k)
          clear hxn hym
          go_wp2_with (first
            | (with_reducible refine wpAt ?_; refine buildHN rfl hk256 rfl rfl ?_; simp only [Act.put, List.setIfInBounds_toArray, List.set_cons_succ, List.set_cons_zero])
            | (with_reducible refine wpAt ?_; refine sl1H rfl _ rfl hok rfl ?_; intro g7 w7 hg7 hblk7 hb7; have hr7 := rd_blk hblk7; have hown7 := own_keep hown hb7; have hb07 := bx_trans hbr hb7; simp only [Act.put, List.setIfInBounds_toArray, List.set_cons_succ, List.set_cons_zero])
            | (at_builtin; refine wpList_app rfl _ _ _ rfl (Value.slice A8 (hashesN k).length c8) rfl _ _ _ rfl elH hown7 hr7 (by rw [hc_len hok]) (hc_one _) (by unfold maxLen; omega) (by omega) hb07.size ?_; intro v8 w8 hown8 hgr8 hv8; have hb08 := own_below hb07 hown7 hgr8))
          go_roundw
          case rel => exact ⟨k + 1, by omega, by go_num, by rw [HS.out, List.length_append, List.map_append, List.flatten_append]; simpa using hown8, hb08⟩
          case measure => simp [intOf]; omega
        · obtain rfl : k = m := by omega
          have hH := own_more hown (Nat.zero_le _)
          have hKp := own_keep hK hbr
          have hbp := bx_trans hb0 hbr
          have hln := keysN_len i
          have hlm := hashesN_len k
          have hok1 := keysN_ok (n := i) (by omega)
          have hok2 := hashesN_ok k
          have hll1 := last32_len (keysN i)
          have hll2 := last32_len (hashesN k)
          have hlk1 := last_key (n := i)
          have hlk2 := last_hash (n := k)
          rw [hln] at hll1
          rw [hlm] at hll2
          have HLN := hid hln
          have HLM := hid hlm
          have HL1 := hid hll1
          have HL2 := hid hll2
          have HK1 := hid hlk1
          have HK2 := hid hlk2
          clear hK hown hb0 hbr hxn hym hlt hlk hln hlm hll1 hll2 hlk1 hlk2
          generalize keysN i = kl at *
          generalize hashesN k = hl at *
          go_wp2_with fail
          refine (Make_any wp hok1 hok2 (own_rd hKp) (own_rd hH) (by rw [HLN.out]; omega) (by rw [HLM.out]; omega) (by assumption) (by unfold maxLen at *; omega) (by assumption) (by unfold maxLen at *; omega)).mono ?_
          rintro e w2 ⟨v, u, rfl, hK2, hH2, hb2⟩
          have hK2 := own_more hK2 (Nat.zero_le _)
          have hH2 := own_more hH2 (Nat.zero_le _)
          obtain ⟨AK, cK, rfl, _, _, _⟩ := own_form hK2
          obtain ⟨AH, cH, rfl, _, _, _⟩ := own_form hH2
          have hb02 := bx_trans hbp hb2
          have hKa := own_keep hKp hb2
          have hHa := own_keep hH hb2
          clear hKp hH hbp hb2
          go_wp2_with (first
            | (with_reducible refine wpAt ?_; refine wpList_alloc rfl _ rfl zDg ?_; intro g7 w7 hg7 hg7' hz7 hb7; simp only [Act.put, List.setIfInBounds_toArray, List.set_cons_succ, List.set_cons_zero])
            | (with_reducible refine wpAt ?_; refine storeD rfl rfl rfl rfl hz7 ?_; intro w8 hp8; simp only [Act.put]; have hD8 := hp8.blk)
            | (with_reducible refine wpAt ?_; refine loadG rfl rfl rfl (by assumption) ?_; simp only [Act.put, List.setIfInBounds_toArray, List.set_cons_succ, List.set_cons_zero]))
          have hK8 := own_put (own_keep hK2 hb7) hz7 hp8 (by decide)
          have hH8 := own_put (own_keep hH2 hb7) hz7 hp8 (by decide)
          have hKb := own_put (own_keep hKa hb7) hz7 hp8 (by decide)
          have hHb := own_put (own_keep hHa hb7) hz7 hp8 (by decide)
          have hb08 := bx_put (bx_trans hb02 hb7) hp8 (Nat.le_trans hb02.size hg7)
          clear hK2 hH2 hKa hHa hb02 hz7 hp8 hb7
          have ho1 := last32_ok hok1
          have ho2 := last32_ok hok2
          refine (Put_any w8 ho1 ho2 (own_rd hK8) (own_rd hH8) (by rw [HL1.out]; omega) (by rw [HL2.out]; omega)).mono ?_
          rintro e w9 ⟨vp, rfl, hP9, hb9⟩
          have hplen : (putB (last32 kl) (last32 hl)).length = 2 + 40 * (last32 kl).length + 32 * (last32 hl).length := by
            unfold putB
            simp only [List.length_append, numL_len']
            rw [keysB_len ho1, hashesB_len ho2]
            omega
          have HPL := hid hplen
          clear hplen
          generalize putB (last32 kl) (last32 hl) = pb at *
          obtain ⟨AP, cP, rfl, _, _, _⟩ := own_form hP9
          have hD9 := hD8.below hb9 hD8.lt
          have hK9 := own_keep hK8 hb9
          have hH9 := own_keep hH8 hb9
          have hKc := own_keep hKb hb9
          have hHc := own_keep hHb hb9
          have hb09 := bx_trans hb08 hb9
          clear hD8 hK8 hH8 hKb hHb hb08 hP9
          clear hb9
          have hcase := HC.out
          clear HC
          obtain ⟨p, rfl⟩ : ∃ p, i = p + 1 := ⟨i - 1, by omega⟩
          by_cases hk0 : k = 0
          · subst hk0
            go_wp2_with fail
            refine (Put_any w9 hok1 hok2 (own_rd hKc) (own_rd hHc) (by rw [HLN.out]; omega) (by rw [HLM.out]; omega)).mono ?_
            rintro e w10 ⟨vq, rfl, hQ10, hb10⟩
            obtain ⟨AQ, cQ, rfl, _, _, _⟩ := own_form hQ10
            clear hQ10
            have hxl : (last32 kl).length = (p + 1) := by have := HL1.out; omega
            obtain ⟨hlt1, hit1⟩ := HK1.out (by omega)
            obtain ⟨bK, oK, hE, hbK, hdK⟩ := rd_item (i := (last32 kl).length - 1) (own_rd hK9) (mapLenK ho1) (by decide) (by rw [List.length_map]; exact hlt1)
            rw [List.getElem_map, hit1] at hdK
            subst hE
            have hdk0 := hdK 0 _ rfl
            rw [hxl] at hdk0
            have hdk1 : w9.cell? ⟨bK, oK + p * 33, none⟩ = some (.int .u64 (p : Int)) := by simpa using hdk0
            have hbK10 := Nat.lt_of_lt_of_le hbK hb10.size
            have hdk2 := fun (w_ : World) (hx_ : Below w10.heap.size w10 w_) => (hx_.cell (p := ⟨bK, oK + p * 33, none⟩) hbK10).trans ((hb10.cell (p := ⟨bK, oK + p * 33, none⟩) hbK).trans hdk1)
            clear hdk0 hdk1 hdK hlt1 hit1
            have hyl : (last32 hl).length = 0 := by have := HL2.out; omega
            have hb010 := bx_trans hb09 hb10
            have hD9 := hD9.below hb10 hD9.lt
            rw [hxl, hyl] at HPL hD9
            clear hxl hyl hK9 hH9 hKc hHc hb09 hb10 HLN HLM HL1 HL2 HK1 HK2
            have fa1 : ¬ ((p : Int) + 1 = 0) := by omega
            have fa4 : IntKind.i64.wrap (p : Int) = (p : Int) := wr_i64 _ (by omega) (by omega)
            have fa5 : IntKind.u64.wrap (p : Int) = (p : Int) := by simp [IntKind.wrap, IntKind.bits, IntKind.signed]; omega
            have fa6 : (p : Int) + 1 ≤ 32 := by omega
            have fw1 : IntKind.i64.wrap (40 * ((p : Int) + 1)) = 40 * ((p : Int) + 1) := wr_i64 _ (by omega) (by omega)
            have fw2 : IntKind.i64.wrap (2 + 40 * ((p : Int) + 1)) = 2 + 40 * ((p : Int) + 1) := wr_i64 _ (by omega) (by omega)
            have fw4 : IntKind.i64.wrap (2 + 40 * ((p : Int) + 1)) = 2 + 40 * ((p : Int) + 1) := wr_i64 _ (by omega) (by omega)
            have fw5 : (pb.length : Int) = 2 + 40 * ((p : Int) + 1) := by have := HPL.out; omega
            simp only []
            repeat ((fail_if_success (with_reducible refine wpHalt 21 ?_)); first | go_skip | go_guarded | go_step)
            refine wp_region_lit ?_
            refine wp_flowSE [0, 1, 3, 7, 15, 31, 63, 127, 255, 511, 1023, 2047, 4095, 8191, 16383, 32767, 65535, 131071, 262143, 524287, 1048575, 2097151, 4194303, 8388607, 16777215, 33554431, 67108863, 134217727, 268435455, 536870911, 1073741823, 2147483647, 4294967295, 8589934591, 17179869183, 34359738367, 68719476735, 137438953471, 274877906943, 549755813887, 1099511627775, 2199023255551, 4398046511103, 8796093022207, 17592186044415, 35184372088831, 70368744177663, 140737488355327, 281474976710655, 562949953421311, 1125899906842623, 2251799813685247, 4503599627370495, 9007199254740991, 18014398509481983, 36028797018963967, 72057594037927935, 144115188075855871, 288230376151711743, 576460752303423487, 1152921504606846975, 2305843009213693951, 4611686018427387903, 9223372036854775807, 18446744073709551615, 36893488147419103231, 73786976294838206463, 147573952589676412927, 295147905179352825855, 590295810358705651711, 1180591620717411303423, 2361183241434822606847, 4722366482869645213695] 73 [false, false, false, false, true, false, false, false, false, false, false, false, false, false, false, false, false, false, false, false, false, false, false, false, false, false, false, false, false, false, false, false, false, false, false, false, false, false, false, false, false, false, false, false, false, false, false, false, false, false, false, false, false, false, false, false, false, false, false, false, false, false, false, false, false, false, false, false, false, true, true, true, true, true, true, true, true, true, true, true, true, true, true, true, true, true, true, true, true, true, true, true, true, true, true, true, true, true, true, true, true, true, true, true, true, true, true, true, true, true, true, true, true, true, true, true, true, true, true, true, true, true, true, true, true, true, true, true, true, true, true, true, true, true, true, true, true, true, true, true, true] (by kernel_rfl) (by kernel_rfl) (by kernel_rfl) [FP.eq (.pointer (some ⟨g7, 0, none⟩)), FP.eq (.slice (some ⟨bK, oK, none⟩) (p + 1) cK), FP.eq (.int .i64 ((p : Int) + 1)), FP.eq (.int .i64 ((p : Int) + 1)), FP.eq (.bool true), FP.eq (.bool true), FP.eq (.pointer (some ⟨g7, 1, none⟩)), FP.eq (.slice AH 0 cH), FP.eq (.int .i64 0), FP.eq (.int .i64 0), FP.eq (.bool true), FP.eq (.bool true), FP.eq (.bool true), FP.eq (.int .i64 ((p : Int) + 1)), FP.eq (.bool false), FP.eq (.bool false), FP.eq (.pointer (some ⟨g7, 0, none⟩)), FP.eq (.slice (some ⟨bK, oK, none⟩) (p + 1) cK), FP.eq (.int .i64 ((p : Int) + 1)), FP.eq (.int .i64 (p : Int)), FP.eq (.pointer (some ⟨bK, oK + p * 33, none⟩)), FP.eq (.pointer (some ⟨bK, oK + p * 33, none⟩)), FP.eq (.int .u64 (p : Int)), FP.eq (.int .i64 ((p : Int) + 1)), FP.eq (.int .i64 (p : Int)), FP.eq (.int .u64 (p : Int)), FP.eq (.bool true), FP.eq (.bool true), FP.eq (.bool true), FP.eq (.bool true), FP.eq (.int .i64 0), FP.eq (.bool true), FP.eq (.bool true), FP.any, FP.any, FP.any, FP.any, FP.any, FP.any, FP.any, FP.any, FP.any, FP.any, FP.any, FP.eq (.bool true), FP.eq (.bool true), FP.eq (.bool true), FP.eq (.int .i64 0), FP.eq (.bool true), FP.eq (.bool true), FP.eq (.bool true), FP.eq (.slice AP pb.length cP), FP.eq (.int .i64 (pb.length : Int)), FP.eq (.int .i64 ((p : Int) + 1)), FP.eq (.int .i64 (40 * ((p : Int) + 1))), FP.eq (.int .i64 (2 + 40 * ((p : Int) + 1))), FP.eq (.int .i64 0), FP.eq (.int .i64 (0)), FP.eq (.int .i64 (2 + 40 * ((p : Int) + 1))), FP.eq (.bool true), FP.eq (.bool true), FP.eq (.bool true), FP.eq (.int .i64 0), FP.eq (.bool true), FP.eq (.int .i64 ((p : Int) + 1)), FP.eq (.bool true), FP.eq (.bool true), FP.eq (.int .i64 0), FP.eq (.bool true), FP.eq (.bool true), FP.eq (.bool true), FP.eq (.bool true), FP.eq (.bool true)] ?_ ?_
            · refine allFrom_cons ?_ ?_
              · intro a_ w_ hk_
                have h12 : a_.eval (.tmp 12) = .pointer (some ⟨g7, 0, none⟩) := hk_.old 12 (by kernel_rfl)
                have hx_ := hk_.ext
                clear hk_
                refine flow_plain rfl ?_
                unfold gives
                have hc_ : ∀ v, a_.eval (.const v) = v := fun _ => rfl
                have hn_ : ∀ f, a_.eval (.func f) = .func (.func f) #[] #[] := fun _ => rfl
                generalize a_.eval = ρ_ at *
                go_simp
                exact ⟨Below.refl _ _, rfl⟩
              refine allFrom_cons ?_ ?_
              · intro a_ w_ hk_
                have h69 : a_.eval (.tmp 69) = (.pointer (some ⟨g7, 0, none⟩)) := hk_.got 0 69 _ (by kernel_rfl) rfl rfl
                have hx_ := hk_.ext
                clear hk_
                refine flow_plain rfl ?_
                unfold gives
                have hc_ : ∀ v, a_.eval (.const v) = v := fun _ => rfl
                have hn_ : ∀ f, a_.eval (.func f) = .func (.func f) #[] #[] := fun _ => rfl
                have hcell := (hD9.below hx_ hD9.lt).cell 0
                generalize a_.eval = ρ_ at *
                go_simp
                exact ⟨Below.refl _ _, rfl⟩
              refine allFrom_cons ?_ ?_
              · intro a_ w_ hk_
                have h70 : a_.eval (.tmp 70) = (.slice (some ⟨bK, oK, none⟩) (p + 1) cK) := hk_.got 1 70 _ (by kernel_rfl) rfl rfl
                have hx_ := hk_.ext
                clear hk_
                refine flow_plain rfl ?_
                unfold gives
                have hc_ : ∀ v, a_.eval (.const v) = v := fun _ => rfl
                have hn_ : ∀ f, a_.eval (.func f) = .func (.func f) #[] #[] := fun _ => rfl
                generalize a_.eval = ρ_ at *
                go_simp
                exact ⟨Below.refl _ _, rfl⟩
              refine allFrom_cons ?_ ?_
              · intro a_ w_ hk_
                have h17 : a_.eval (.tmp 17) = .int .i64 ((p : Int) + 1) := hk_.old 17 (by kernel_rfl)
                have hx_ := hk_.ext
                clear hk_
                refine flow_plain rfl ?_
                exact gives_move rfl ⟨Below.refl _ _, h17⟩
              refine allFrom_cons ?_ ?_
              · intro a_ w_ hk_
                have h71 : a_.eval (.tmp 71) = (.int .i64 ((p : Int) + 1)) := hk_.got 2 71 _ (by kernel_rfl) rfl rfl
                have h72 : a_.eval (.tmp 72) = (.int .i64 ((p : Int) + 1)) := hk_.got 3 72 _ (by kernel_rfl) rfl rfl
                have hx_ := hk_.ext
                clear hk_
                refine flow_plain rfl ?_
                unfold gives
                have hc_ : ∀ v, a_.eval (.const v) = v := fun _ => rfl
                have hn_ : ∀ f, a_.eval (.func f) = .func (.func f) #[] #[] := fun _ => rfl
                generalize a_.eval = ρ_ at *
                go_simp
                exact ⟨Below.refl _ _, rfl⟩
              refine allFrom_cons ?_ ?_
              · intro a_ w_ hk_
                have h73 : a_.eval (.tmp 73) = (.bool true) := hk_.got 4 73 _ (by kernel_rfl) rfl rfl
                have hx_ := hk_.ext
                clear hk_
                refine flow_plain rfl ?_
                exact gives_move rfl ⟨Below.refl _ _, h73⟩
              refine allFrom_cons ?_ ?_
              · intro a_ w_ hk_
                have h12 : a_.eval (.tmp 12) = .pointer (some ⟨g7, 0, none⟩) := hk_.old 12 (by kernel_rfl)
                have hg_ : a_.eval (.tmp 74) = .bool true := hk_.got 5 74 _ (by kernel_rfl) rfl rfl
                have hy_ := hk_.want 5 _ 74 true rfl rfl hg_
                have hx_ := hk_.ext
                clear hk_
                refine flow_want rfl hy_ ?_
                unfold gives
                have hc_ : ∀ v, a_.eval (.const v) = v := fun _ => rfl
                have hn_ : ∀ f, a_.eval (.func f) = .func (.func f) #[] #[] := fun _ => rfl
                clear hy_ hg_
                generalize a_.eval = ρ_ at *
                go_simp
                exact ⟨Below.refl _ _, rfl⟩
              refine allFrom_cons ?_ ?_
              · intro a_ w_ hk_
                have h75 : a_.eval (.tmp 75) = (.pointer (some ⟨g7, 1, none⟩)) := hk_.got 6 75 _ (by kernel_rfl) rfl rfl
                have hg_ : a_.eval (.tmp 74) = .bool true := hk_.got 5 74 _ (by kernel_rfl) rfl rfl
                have hy_ := hk_.want 5 _ 74 true rfl rfl hg_
                have hx_ := hk_.ext
                clear hk_
                refine flow_want rfl hy_ ?_
                unfold gives
                have hc_ : ∀ v, a_.eval (.const v) = v := fun _ => rfl
                have hn_ : ∀ f, a_.eval (.func f) = .func (.func f) #[] #[] := fun _ => rfl
                clear hy_ hg_
                have hcell := (hD9.below hx_ hD9.lt).cell 1
                generalize a_.eval = ρ_ at *
                go_simp
                exact ⟨Below.refl _ _, rfl⟩
              refine allFrom_cons ?_ ?_
              · intro a_ w_ hk_
                have h76 : a_.eval (.tmp 76) = (.slice AH 0 cH) := hk_.got 7 76 _ (by kernel_rfl) rfl rfl
                have hg_ : a_.eval (.tmp 74) = .bool true := hk_.got 5 74 _ (by kernel_rfl) rfl rfl
                have hy_ := hk_.want 5 _ 74 true rfl rfl hg_
                have hx_ := hk_.ext
                clear hk_
                refine flow_want rfl hy_ ?_
                unfold gives
                have hc_ : ∀ v, a_.eval (.const v) = v := fun _ => rfl
                have hn_ : ∀ f, a_.eval (.func f) = .func (.func f) #[] #[] := fun _ => rfl
                clear hy_ hg_
                generalize a_.eval = ρ_ at *
                go_simp
                exact ⟨Below.refl _ _, rfl⟩
              refine allFrom_cons ?_ ?_
              · intro a_ w_ hk_
                have h18 : a_.eval (.tmp 18) = .int .i64 0 := hk_.old 18 (by kernel_rfl)
                have hg_ : a_.eval (.tmp 74) = .bool true := hk_.got 5 74 _ (by kernel_rfl) rfl rfl
                have hy_ := hk_.want 5 _ 74 true rfl rfl hg_
                have hx_ := hk_.ext
                clear hk_
                refine flow_want rfl hy_ ?_
                exact gives_move rfl ⟨Below.refl _ _, h18⟩
              refine allFrom_cons ?_ ?_
              · intro a_ w_ hk_
                have h77 : a_.eval (.tmp 77) = (.int .i64 0) := hk_.got 8 77 _ (by kernel_rfl) rfl rfl
                have h78 : a_.eval (.tmp 78) = (.int .i64 0) := hk_.got 9 78 _ (by kernel_rfl) rfl rfl
                have hg_ : a_.eval (.tmp 74) = .bool true := hk_.got 5 74 _ (by kernel_rfl) rfl rfl
                have hy_ := hk_.want 5 _ 74 true rfl rfl hg_
                have hx_ := hk_.ext
                clear hk_
                refine flow_want rfl hy_ ?_
                unfold gives
                have hc_ : ∀ v, a_.eval (.const v) = v := fun _ => rfl
                have hn_ : ∀ f, a_.eval (.func f) = .func (.func f) #[] #[] := fun _ => rfl
                clear hy_ hg_
                generalize a_.eval = ρ_ at *
                go_simp
                exact ⟨Below.refl _ _, rfl⟩
              refine allFrom_cons ?_ ?_
              · intro a_ w_ hk_
                have h74 : a_.eval (.tmp 74) = (.bool true) := hk_.got 5 74 _ (by kernel_rfl) rfl rfl
                have h79 : a_.eval (.tmp 79) = (.bool true) := hk_.got 10 79 _ (by kernel_rfl) rfl rfl
                have hx_ := hk_.ext
                clear hk_
                refine flow_plain rfl ?_
                exact gives_pick rfl h74 ⟨Below.refl _ _, h79⟩
              refine allFrom_cons ?_ ?_
              · intro a_ w_ hk_
                have h80 : a_.eval (.tmp 80) = (.bool true) := hk_.got 11 80 _ (by kernel_rfl) rfl rfl
                have hx_ := hk_.ext
                clear hk_
                refine flow_plain rfl ?_
                exact gives_move rfl ⟨Below.refl _ _, h80⟩
              refine allFrom_cons ?_ ?_
              · intro a_ w_ hk_
                have h17 : a_.eval (.tmp 17) = .int .i64 ((p : Int) + 1) := hk_.old 17 (by kernel_rfl)
                have hg_ : a_.eval (.tmp 81) = .bool true := hk_.got 12 81 _ (by kernel_rfl) rfl rfl
                have hy_ := hk_.want 12 _ 81 true rfl rfl hg_
                have hx_ := hk_.ext
                clear hk_
                refine flow_want rfl hy_ ?_
                exact gives_move rfl ⟨Below.refl _ _, h17⟩
              refine allFrom_cons ?_ ?_
              · intro a_ w_ hk_
                have h82 : a_.eval (.tmp 82) = (.int .i64 ((p : Int) + 1)) := hk_.got 13 82 _ (by kernel_rfl) rfl rfl
                have hg_ : a_.eval (.tmp 81) = .bool true := hk_.got 12 81 _ (by kernel_rfl) rfl rfl
                have hy_ := hk_.want 12 _ 81 true rfl rfl hg_
                have hx_ := hk_.ext
                clear hk_
                refine flow_want rfl hy_ ?_
                unfold gives
                have hc_ : ∀ v, a_.eval (.const v) = v := fun _ => rfl
                have hn_ : ∀ f, a_.eval (.func f) = .func (.func f) #[] #[] := fun _ => rfl
                clear hy_ hg_
                generalize a_.eval = ρ_ at *
                go_simp
                exact ⟨Below.refl _ _, rfl⟩
              refine allFrom_cons ?_ ?_
              · intro a_ w_ hk_
                have h83 : a_.eval (.tmp 83) = (.bool false) := hk_.got 14 83 _ (by kernel_rfl) rfl rfl
                have hg_ : a_.eval (.tmp 81) = .bool true := hk_.got 12 81 _ (by kernel_rfl) rfl rfl
                have hy_ := hk_.want 12 _ 81 true rfl rfl hg_
                have hx_ := hk_.ext
                clear hk_
                refine flow_want rfl hy_ ?_
                exact gives_move rfl ⟨Below.refl _ _, h83⟩
              refine allFrom_cons ?_ ?_
              · intro a_ w_ hk_
                have h12 : a_.eval (.tmp 12) = .pointer (some ⟨g7, 0, none⟩) := hk_.old 12 (by kernel_rfl)
                have hg_ : a_.eval (.tmp 84) = .bool false := hk_.got 15 84 _ (by kernel_rfl) rfl rfl
                have hy_ := hk_.want 15 _ 84 false rfl rfl hg_
                have hx_ := hk_.ext
                clear hk_
                refine flow_want rfl hy_ ?_
                unfold gives
                have hc_ : ∀ v, a_.eval (.const v) = v := fun _ => rfl
                have hn_ : ∀ f, a_.eval (.func f) = .func (.func f) #[] #[] := fun _ => rfl
                clear hy_ hg_
                generalize a_.eval = ρ_ at *
                go_simp
                exact ⟨Below.refl _ _, rfl⟩
              refine allFrom_cons ?_ ?_
              · intro a_ w_ hk_
                have h85 : a_.eval (.tmp 85) = (.pointer (some ⟨g7, 0, none⟩)) := hk_.got 16 85 _ (by kernel_rfl) rfl rfl
                have hg_ : a_.eval (.tmp 84) = .bool false := hk_.got 15 84 _ (by kernel_rfl) rfl rfl
                have hy_ := hk_.want 15 _ 84 false rfl rfl hg_
                have hx_ := hk_.ext
                clear hk_
                refine flow_want rfl hy_ ?_
                unfold gives
                have hc_ : ∀ v, a_.eval (.const v) = v := fun _ => rfl
                have hn_ : ∀ f, a_.eval (.func f) = .func (.func f) #[] #[] := fun _ => rfl
                clear hy_ hg_
                have hcell := (hD9.below hx_ hD9.lt).cell 0
                generalize a_.eval = ρ_ at *
                go_simp
                exact ⟨Below.refl _ _, rfl⟩
              refine allFrom_cons ?_ ?_
              · intro a_ w_ hk_
                have h17 : a_.eval (.tmp 17) = .int .i64 ((p : Int) + 1) := hk_.old 17 (by kernel_rfl)
                have hg_ : a_.eval (.tmp 84) = .bool false := hk_.got 15 84 _ (by kernel_rfl) rfl rfl
                have hy_ := hk_.want 15 _ 84 false rfl rfl hg_
                have hx_ := hk_.ext
                clear hk_
                refine flow_want rfl hy_ ?_
                exact gives_move rfl ⟨Below.refl _ _, h17⟩
              refine allFrom_cons ?_ ?_
              · intro a_ w_ hk_
                have h87 : a_.eval (.tmp 87) = (.int .i64 ((p : Int) + 1)) := hk_.got 18 87 _ (by kernel_rfl) rfl rfl
                have hg_ : a_.eval (.tmp 84) = .bool false := hk_.got 15 84 _ (by kernel_rfl) rfl rfl
                have hy_ := hk_.want 15 _ 84 false rfl rfl hg_
                have hx_ := hk_.ext
                clear hk_
                refine flow_want rfl hy_ ?_
                unfold gives
                have hc_ : ∀ v, a_.eval (.const v) = v := fun _ => rfl
                have hn_ : ∀ f, a_.eval (.func f) = .func (.func f) #[] #[] := fun _ => rfl
                clear hy_ hg_
                generalize a_.eval = ρ_ at *
                go_simp
                exact ⟨Below.refl _ _, rfl⟩
              refine allFrom_cons ?_ ?_
              · intro a_ w_ hk_
                have h86 : a_.eval (.tmp 86) = (.slice (some ⟨bK, oK, none⟩) (p + 1) cK) := hk_.got 17 86 _ (by kernel_rfl) rfl rfl
                have h88 : a_.eval (.tmp 88) = (.int .i64 (p : Int)) := hk_.got 19 88 _ (by kernel_rfl) rfl rfl
                have hg_ : a_.eval (.tmp 84) = .bool false := hk_.got 15 84 _ (by kernel_rfl) rfl rfl
                have hy_ := hk_.want 15 _ 84 false rfl rfl hg_
                have hx_ := hk_.ext
                clear hk_
                refine flow_want rfl hy_ ?_
                unfold gives
                have hc_ : ∀ v, a_.eval (.const v) = v := fun _ => rfl
                have hn_ : ∀ f, a_.eval (.func f) = .func (.func f) #[] #[] := fun _ => rfl
                clear hy_ hg_
                have hlt_ : (p : Int) < (p : Int) + 1 := by omega
                generalize a_.eval = ρ_ at *
                go_simp
                exact ⟨Below.refl _ _, rfl⟩
              refine allFrom_cons ?_ ?_
              · intro a_ w_ hk_
                have h89 : a_.eval (.tmp 89) = (.pointer (some ⟨bK, oK + p * 33, none⟩)) := hk_.got 20 89 _ (by kernel_rfl) rfl rfl
                have hg_ : a_.eval (.tmp 84) = .bool false := hk_.got 15 84 _ (by kernel_rfl) rfl rfl
                have hy_ := hk_.want 15 _ 84 false rfl rfl hg_
                have hx_ := hk_.ext
                clear hk_
                refine flow_want rfl hy_ ?_
                unfold gives
                have hc_ : ∀ v, a_.eval (.const v) = v := fun _ => rfl
                have hn_ : ∀ f, a_.eval (.func f) = .func (.func f) #[] #[] := fun _ => rfl
                clear hy_ hg_
                generalize a_.eval = ρ_ at *
                go_simp
                exact ⟨Below.refl _ _, rfl⟩
              refine allFrom_cons ?_ ?_
              · intro a_ w_ hk_
                have h90 : a_.eval (.tmp 90) = (.pointer (some ⟨bK, oK + p * 33, none⟩)) := hk_.got 21 90 _ (by kernel_rfl) rfl rfl
                have hg_ : a_.eval (.tmp 84) = .bool false := hk_.got 15 84 _ (by kernel_rfl) rfl rfl
                have hy_ := hk_.want 15 _ 84 false rfl rfl hg_
                have hx_ := hk_.ext
                clear hk_
                refine flow_want rfl hy_ ?_
                unfold gives
                have hc_ : ∀ v, a_.eval (.const v) = v := fun _ => rfl
                have hn_ : ∀ f, a_.eval (.func f) = .func (.func f) #[] #[] := fun _ => rfl
                clear hy_ hg_
                have hcell := hdk2 _ hx_
                generalize a_.eval = ρ_ at *
                go_simp
                exact ⟨Below.refl _ _, rfl⟩
              refine allFrom_cons ?_ ?_
              · intro a_ w_ hk_
                have h6 : a_.eval (.tmp 6) = .int .i64 ((p : Int) + 1) := hk_.old 6 (by kernel_rfl)
                have hg_ : a_.eval (.tmp 84) = .bool false := hk_.got 15 84 _ (by kernel_rfl) rfl rfl
                have hy_ := hk_.want 15 _ 84 false rfl rfl hg_
                have hx_ := hk_.ext
                clear hk_
                refine flow_want rfl hy_ ?_
                exact gives_move rfl ⟨Below.refl _ _, h6⟩
              refine allFrom_cons ?_ ?_
              · intro a_ w_ hk_
                have h92 : a_.eval (.tmp 92) = (.int .i64 ((p : Int) + 1)) := hk_.got 23 92 _ (by kernel_rfl) rfl rfl
                have hg_ : a_.eval (.tmp 84) = .bool false := hk_.got 15 84 _ (by kernel_rfl) rfl rfl
                have hy_ := hk_.want 15 _ 84 false rfl rfl hg_
                have hx_ := hk_.ext
                clear hk_
                refine flow_want rfl hy_ ?_
                unfold gives
                have hc_ : ∀ v, a_.eval (.const v) = v := fun _ => rfl
                have hn_ : ∀ f, a_.eval (.func f) = .func (.func f) #[] #[] := fun _ => rfl
                clear hy_ hg_
                generalize a_.eval = ρ_ at *
                go_simp
                exact ⟨Below.refl _ _, rfl⟩
              refine allFrom_cons ?_ ?_
              · intro a_ w_ hk_
                have h93 : a_.eval (.tmp 93) = (.int .i64 (p : Int)) := hk_.got 24 93 _ (by kernel_rfl) rfl rfl
                have hg_ : a_.eval (.tmp 84) = .bool false := hk_.got 15 84 _ (by kernel_rfl) rfl rfl
                have hy_ := hk_.want 15 _ 84 false rfl rfl hg_
                have hx_ := hk_.ext
                clear hk_
                refine flow_want rfl hy_ ?_
                unfold gives
                have hc_ : ∀ v, a_.eval (.const v) = v := fun _ => rfl
                have hn_ : ∀ f, a_.eval (.func f) = .func (.func f) #[] #[] := fun _ => rfl
                clear hy_ hg_
                generalize a_.eval = ρ_ at *
                go_simp
                exact ⟨Below.refl _ _, rfl⟩
              refine allFrom_cons ?_ ?_
              · intro a_ w_ hk_
                have h91 : a_.eval (.tmp 91) = (.int .u64 (p : Int)) := hk_.got 22 91 _ (by kernel_rfl) rfl rfl
                have h94 : a_.eval (.tmp 94) = (.int .u64 (p : Int)) := hk_.got 25 94 _ (by kernel_rfl) rfl rfl
                have hg_ : a_.eval (.tmp 84) = .bool false := hk_.got 15 84 _ (by kernel_rfl) rfl rfl
                have hy_ := hk_.want 15 _ 84 false rfl rfl hg_
                have hx_ := hk_.ext
                clear hk_
                refine flow_want rfl hy_ ?_
                unfold gives
                have hc_ : ∀ v, a_.eval (.const v) = v := fun _ => rfl
                have hn_ : ∀ f, a_.eval (.func f) = .func (.func f) #[] #[] := fun _ => rfl
                clear hy_ hg_
                generalize a_.eval = ρ_ at *
                go_simp
                exact ⟨Below.refl _ _, rfl⟩
              refine allFrom_cons ?_ ?_
              · intro a_ w_ hk_
                have h84 : a_.eval (.tmp 84) = (.bool false) := hk_.got 15 84 _ (by kernel_rfl) rfl rfl
                have h95 : a_.eval (.tmp 95) = (.bool true) := hk_.got 26 95 _ (by kernel_rfl) rfl rfl
                have hg_ : a_.eval (.tmp 81) = .bool true := hk_.got 12 81 _ (by kernel_rfl) rfl rfl
                have hy_ := hk_.want 12 _ 81 true rfl rfl hg_
                have hx_ := hk_.ext
                clear hk_
                refine flow_want rfl hy_ ?_
                exact gives_pick rfl h84 ⟨Below.refl _ _, h95⟩
              refine allFrom_cons ?_ ?_
              · intro a_ w_ hk_
                have h81 : a_.eval (.tmp 81) = (.bool true) := hk_.got 12 81 _ (by kernel_rfl) rfl rfl
                have h96 : a_.eval (.tmp 96) = (.bool true) := hk_.got 27 96 _ (by kernel_rfl) rfl rfl
                have hx_ := hk_.ext
                clear hk_
                refine flow_plain rfl ?_
                exact gives_pick rfl h81 ⟨Below.refl _ _, h96⟩
              refine allFrom_cons ?_ ?_
              · intro a_ w_ hk_
                have h97 : a_.eval (.tmp 97) = (.bool true) := hk_.got 28 97 _ (by kernel_rfl) rfl rfl
                have hx_ := hk_.ext
                clear hk_
                refine flow_plain rfl ?_
                exact gives_move rfl ⟨Below.refl _ _, h97⟩
              refine allFrom_cons ?_ ?_
              · intro a_ w_ hk_
                have h18 : a_.eval (.tmp 18) = .int .i64 0 := hk_.old 18 (by kernel_rfl)
                have hg_ : a_.eval (.tmp 98) = .bool true := hk_.got 29 98 _ (by kernel_rfl) rfl rfl
                have hy_ := hk_.want 29 _ 98 true rfl rfl hg_
                have hx_ := hk_.ext
                clear hk_
                refine flow_want rfl hy_ ?_
                exact gives_move rfl ⟨Below.refl _ _, h18⟩
              refine allFrom_cons ?_ ?_
              · intro a_ w_ hk_
                have h99 : a_.eval (.tmp 99) = (.int .i64 0) := hk_.got 30 99 _ (by kernel_rfl) rfl rfl
                have hg_ : a_.eval (.tmp 98) = .bool true := hk_.got 29 98 _ (by kernel_rfl) rfl rfl
                have hy_ := hk_.want 29 _ 98 true rfl rfl hg_
                have hx_ := hk_.ext
                clear hk_
                refine flow_want rfl hy_ ?_
                unfold gives
                have hc_ : ∀ v, a_.eval (.const v) = v := fun _ => rfl
                have hn_ : ∀ f, a_.eval (.func f) = .func (.func f) #[] #[] := fun _ => rfl
                clear hy_ hg_
                generalize a_.eval = ρ_ at *
                go_simp
                exact ⟨Below.refl _ _, rfl⟩
              refine allFrom_cons ?_ ?_
              · intro a_ w_ hk_
                have h100 : a_.eval (.tmp 100) = (.bool true) := hk_.got 31 100 _ (by kernel_rfl) rfl rfl
                have hg_ : a_.eval (.tmp 98) = .bool true := hk_.got 29 98 _ (by kernel_rfl) rfl rfl
                have hy_ := hk_.want 29 _ 98 true rfl rfl hg_
                have hx_ := hk_.ext
                clear hk_
                refine flow_want rfl hy_ ?_
                exact gives_move rfl ⟨Below.refl _ _, h100⟩
              refine allFrom_cons ?_ ?_
              · intro a_ w_ hk_
                have h12 : a_.eval (.tmp 12) = .pointer (some ⟨g7, 0, none⟩) := hk_.old 12 (by kernel_rfl)
                have hg_ : a_.eval (.tmp 101) = .bool true := hk_.got 32 101 _ (by kernel_rfl) rfl rfl
                have hy_ := hk_.want 32 _ 101 true rfl rfl hg_
                have hx_ := hk_.ext
                clear hk_
                exact flow_skip rfl hy_ (by decide) trivial
              refine allFrom_cons ?_ ?_
              · intro a_ w_ hk_
                have hg_ : a_.eval (.tmp 101) = .bool true := hk_.got 32 101 _ (by kernel_rfl) rfl rfl
                have hy_ := hk_.want 32 _ 101 true rfl rfl hg_
                have hx_ := hk_.ext
                clear hk_
                exact flow_skip rfl hy_ (by decide) trivial
              refine allFrom_cons ?_ ?_
              · intro a_ w_ hk_
                have h18 : a_.eval (.tmp 18) = .int .i64 0 := hk_.old 18 (by kernel_rfl)
                have hg_ : a_.eval (.tmp 101) = .bool true := hk_.got 32 101 _ (by kernel_rfl) rfl rfl
                have hy_ := hk_.want 32 _ 101 true rfl rfl hg_
                have hx_ := hk_.ext
                clear hk_
                exact flow_skip rfl hy_ (by decide) trivial
              refine allFrom_cons ?_ ?_
              · intro a_ w_ hk_
                have hg_ : a_.eval (.tmp 101) = .bool true := hk_.got 32 101 _ (by kernel_rfl) rfl rfl
                have hy_ := hk_.want 32 _ 101 true rfl rfl hg_
                have hx_ := hk_.ext
                clear hk_
                exact flow_skip rfl hy_ (by decide) trivial
              refine allFrom_cons ?_ ?_
              · intro a_ w_ hk_
                have hg_ : a_.eval (.tmp 101) = .bool true := hk_.got 32 101 _ (by kernel_rfl) rfl rfl
                have hy_ := hk_.want 32 _ 101 true rfl rfl hg_
                have hx_ := hk_.ext
                clear hk_
                exact flow_skip rfl hy_ (by decide) trivial
              refine allFrom_cons ?_ ?_
              · intro a_ w_ hk_
                have hg_ : a_.eval (.tmp 101) = .bool true := hk_.got 32 101 _ (by kernel_rfl) rfl rfl
                have hy_ := hk_.want 32 _ 101 true rfl rfl hg_
                have hx_ := hk_.ext
                clear hk_
                exact flow_skip rfl hy_ (by decide) trivial
              refine allFrom_cons ?_ ?_
              · intro a_ w_ hk_
                have h7 : a_.eval (.tmp 7) = .int .i64 0 := hk_.old 7 (by kernel_rfl)
                have hg_ : a_.eval (.tmp 101) = .bool true := hk_.got 32 101 _ (by kernel_rfl) rfl rfl
                have hy_ := hk_.want 32 _ 101 true rfl rfl hg_
                have hx_ := hk_.ext
                clear hk_
                exact flow_skip rfl hy_ (by decide) trivial
              refine allFrom_cons ?_ ?_
              · intro a_ w_ hk_
                have hg_ : a_.eval (.tmp 101) = .bool true := hk_.got 32 101 _ (by kernel_rfl) rfl rfl
                have hy_ := hk_.want 32 _ 101 true rfl rfl hg_
                have hx_ := hk_.ext
                clear hk_
                exact flow_skip rfl hy_ (by decide) trivial
              refine allFrom_cons ?_ ?_
              · intro a_ w_ hk_
                have hg_ : a_.eval (.tmp 101) = .bool true := hk_.got 32 101 _ (by kernel_rfl) rfl rfl
                have hy_ := hk_.want 32 _ 101 true rfl rfl hg_
                have hx_ := hk_.ext
                clear hk_
                exact flow_skip rfl hy_ (by decide) trivial
              refine allFrom_cons ?_ ?_
              · intro a_ w_ hk_
                have hg_ : a_.eval (.tmp 101) = .bool true := hk_.got 32 101 _ (by kernel_rfl) rfl rfl
                have hy_ := hk_.want 32 _ 101 true rfl rfl hg_
                have hx_ := hk_.ext
                clear hk_
                exact flow_skip rfl hy_ (by decide) trivial
              refine allFrom_cons ?_ ?_
              · intro a_ w_ hk_
                have hg_ : a_.eval (.tmp 101) = .bool true := hk_.got 32 101 _ (by kernel_rfl) rfl rfl
                have hy_ := hk_.want 32 _ 101 true rfl rfl hg_
                have hx_ := hk_.ext
                clear hk_
                exact flow_skip rfl hy_ (by decide) trivial
              refine allFrom_cons ?_ ?_
              · intro a_ w_ hk_
                have h101 : a_.eval (.tmp 101) = (.bool true) := hk_.got 32 101 _ (by kernel_rfl) rfl rfl
                have hg_ : a_.eval (.tmp 98) = .bool true := hk_.got 29 98 _ (by kernel_rfl) rfl rfl
                have hy_ := hk_.want 29 _ 98 true rfl rfl hg_
                have hx_ := hk_.ext
                clear hk_
                refine flow_want rfl hy_ ?_
                exact gives_pick rfl h101 ⟨Below.refl _ _, rfl⟩
              refine allFrom_cons ?_ ?_
              · intro a_ w_ hk_
                have h98 : a_.eval (.tmp 98) = (.bool true) := hk_.got 29 98 _ (by kernel_rfl) rfl rfl
                have h113 : a_.eval (.tmp 113) = (.bool true) := hk_.got 44 113 _ (by kernel_rfl) rfl rfl
                have hx_ := hk_.ext
                clear hk_
                refine flow_plain rfl ?_
                exact gives_pick rfl h98 ⟨Below.refl _ _, h113⟩
              refine allFrom_cons ?_ ?_
              · intro a_ w_ hk_
                have h114 : a_.eval (.tmp 114) = (.bool true) := hk_.got 45 114 _ (by kernel_rfl) rfl rfl
                have hx_ := hk_.ext
                clear hk_
                refine flow_plain rfl ?_
                exact gives_move rfl ⟨Below.refl _ _, h114⟩
              refine allFrom_cons ?_ ?_
              · intro a_ w_ hk_
                have h14 : a_.eval (.tmp 14) = .int .i64 0 := hk_.old 14 (by kernel_rfl)
                have hg_ : a_.eval (.tmp 115) = .bool true := hk_.got 46 115 _ (by kernel_rfl) rfl rfl
                have hy_ := hk_.want 46 _ 115 true rfl rfl hg_
                have hx_ := hk_.ext
                clear hk_
                refine flow_want rfl hy_ ?_
                exact gives_move rfl ⟨Below.refl _ _, h14⟩
              refine allFrom_cons ?_ ?_
              · intro a_ w_ hk_
                have h116 : a_.eval (.tmp 116) = (.int .i64 0) := hk_.got 47 116 _ (by kernel_rfl) rfl rfl
                have hg_ : a_.eval (.tmp 115) = .bool true := hk_.got 46 115 _ (by kernel_rfl) rfl rfl
                have hy_ := hk_.want 46 _ 115 true rfl rfl hg_
                have hx_ := hk_.ext
                clear hk_
                refine flow_want rfl hy_ ?_
                unfold gives
                have hc_ : ∀ v, a_.eval (.const v) = v := fun _ => rfl
                have hn_ : ∀ f, a_.eval (.func f) = .func (.func f) #[] #[] := fun _ => rfl
                clear hy_ hg_
                generalize a_.eval = ρ_ at *
                go_simp
                exact ⟨Below.refl _ _, rfl⟩
              refine allFrom_cons ?_ ?_
              · intro a_ w_ hk_
                have h115 : a_.eval (.tmp 115) = (.bool true) := hk_.got 46 115 _ (by kernel_rfl) rfl rfl
                have h117 : a_.eval (.tmp 117) = (.bool true) := hk_.got 48 117 _ (by kernel_rfl) rfl rfl
                have hx_ := hk_.ext
                clear hk_
                refine flow_plain rfl ?_
                exact gives_pick rfl h115 ⟨Below.refl _ _, h117⟩
              refine allFrom_cons ?_ ?_
              · intro a_ w_ hk_
                have h118 : a_.eval (.tmp 118) = (.bool true) := hk_.got 49 118 _ (by kernel_rfl) rfl rfl
                have hx_ := hk_.ext
                clear hk_
                refine flow_plain rfl ?_
                exact gives_move rfl ⟨Below.refl _ _, h118⟩
              refine allFrom_cons ?_ ?_
              · intro a_ w_ hk_
                have h13 : a_.eval (.tmp 13) = .slice AP pb.length cP := hk_.old 13 (by kernel_rfl)
                have hg_ : a_.eval (.tmp 119) = .bool true := hk_.got 50 119 _ (by kernel_rfl) rfl rfl
                have hy_ := hk_.want 50 _ 119 true rfl rfl hg_
                have hx_ := hk_.ext
                clear hk_
                refine flow_want rfl hy_ ?_
                exact gives_move rfl ⟨Below.refl _ _, h13⟩
              refine allFrom_cons ?_ ?_
              · intro a_ w_ hk_
                have h120 : a_.eval (.tmp 120) = (.slice AP pb.length cP) := hk_.got 51 120 _ (by kernel_rfl) rfl rfl
                have hg_ : a_.eval (.tmp 119) = .bool true := hk_.got 50 119 _ (by kernel_rfl) rfl rfl
                have hy_ := hk_.want 50 _ 119 true rfl rfl hg_
                have hx_ := hk_.ext
                clear hk_
                refine flow_want rfl hy_ ?_
                unfold gives
                have hc_ : ∀ v, a_.eval (.const v) = v := fun _ => rfl
                have hn_ : ∀ f, a_.eval (.func f) = .func (.func f) #[] #[] := fun _ => rfl
                clear hy_ hg_
                generalize a_.eval = ρ_ at *
                go_simp
                exact ⟨Below.refl _ _, rfl⟩
              refine allFrom_cons ?_ ?_
              · intro a_ w_ hk_
                have h17 : a_.eval (.tmp 17) = .int .i64 ((p : Int) + 1) := hk_.old 17 (by kernel_rfl)
                have hg_ : a_.eval (.tmp 119) = .bool true := hk_.got 50 119 _ (by kernel_rfl) rfl rfl
                have hy_ := hk_.want 50 _ 119 true rfl rfl hg_
                have hx_ := hk_.ext
                clear hk_
                refine flow_want rfl hy_ ?_
                exact gives_move rfl ⟨Below.refl _ _, h17⟩
              refine allFrom_cons ?_ ?_
              · intro a_ w_ hk_
                have h122 : a_.eval (.tmp 122) = (.int .i64 ((p : Int) + 1)) := hk_.got 53 122 _ (by kernel_rfl) rfl rfl
                have hg_ : a_.eval (.tmp 119) = .bool true := hk_.got 50 119 _ (by kernel_rfl) rfl rfl
                have hy_ := hk_.want 50 _ 119 true rfl rfl hg_
                have hx_ := hk_.ext
                clear hk_
                refine flow_want rfl hy_ ?_
                unfold gives
                have hc_ : ∀ v, a_.eval (.const v) = v := fun _ => rfl
                have hn_ : ∀ f, a_.eval (.func f) = .func (.func f) #[] #[] := fun _ => rfl
                clear hy_ hg_
                generalize a_.eval = ρ_ at *
                go_simp
                exact ⟨Below.refl _ _, rfl⟩
              refine allFrom_cons ?_ ?_
              · intro a_ w_ hk_
                have h123 : a_.eval (.tmp 123) = (.int .i64 (40 * ((p : Int) + 1))) := hk_.got 54 123 _ (by kernel_rfl) rfl rfl
                have hg_ : a_.eval (.tmp 119) = .bool true := hk_.got 50 119 _ (by kernel_rfl) rfl rfl
                have hy_ := hk_.want 50 _ 119 true rfl rfl hg_
                have hx_ := hk_.ext
                clear hk_
                refine flow_want rfl hy_ ?_
                unfold gives
                have hc_ : ∀ v, a_.eval (.const v) = v := fun _ => rfl
                have hn_ : ∀ f, a_.eval (.func f) = .func (.func f) #[] #[] := fun _ => rfl
                clear hy_ hg_
                generalize a_.eval = ρ_ at *
                go_simp
                exact ⟨Below.refl _ _, rfl⟩
              refine allFrom_cons ?_ ?_
              · intro a_ w_ hk_
                have h18 : a_.eval (.tmp 18) = .int .i64 0 := hk_.old 18 (by kernel_rfl)
                have hg_ : a_.eval (.tmp 119) = .bool true := hk_.got 50 119 _ (by kernel_rfl) rfl rfl
                have hy_ := hk_.want 50 _ 119 true rfl rfl hg_
                have hx_ := hk_.ext
                clear hk_
                refine flow_want rfl hy_ ?_
                exact gives_move rfl ⟨Below.refl _ _, h18⟩
              refine allFrom_cons ?_ ?_
              · intro a_ w_ hk_
                have h125 : a_.eval (.tmp 125) = (.int .i64 0) := hk_.got 56 125 _ (by kernel_rfl) rfl rfl
                have hg_ : a_.eval (.tmp 119) = .bool true := hk_.got 50 119 _ (by kernel_rfl) rfl rfl
                have hy_ := hk_.want 50 _ 119 true rfl rfl hg_
                have hx_ := hk_.ext
                clear hk_
                refine flow_want rfl hy_ ?_
                unfold gives
                have hc_ : ∀ v, a_.eval (.const v) = v := fun _ => rfl
                have hn_ : ∀ f, a_.eval (.func f) = .func (.func f) #[] #[] := fun _ => rfl
                clear hy_ hg_
                generalize a_.eval = ρ_ at *
                go_simp
                exact ⟨Below.refl _ _, rfl⟩
              refine allFrom_cons ?_ ?_
              · intro a_ w_ hk_
                have h124 : a_.eval (.tmp 124) = (.int .i64 (2 + 40 * ((p : Int) + 1))) := hk_.got 55 124 _ (by kernel_rfl) rfl rfl
                have h126 : a_.eval (.tmp 126) = (.int .i64 (0)) := hk_.got 57 126 _ (by kernel_rfl) rfl rfl
                have hg_ : a_.eval (.tmp 119) = .bool true := hk_.got 50 119 _ (by kernel_rfl) rfl rfl
                have hy_ := hk_.want 50 _ 119 true rfl rfl hg_
                have hx_ := hk_.ext
                clear hk_
                refine flow_want rfl hy_ ?_
                unfold gives
                have hc_ : ∀ v, a_.eval (.const v) = v := fun _ => rfl
                have hn_ : ∀ f, a_.eval (.func f) = .func (.func f) #[] #[] := fun _ => rfl
                clear hy_ hg_
                generalize a_.eval = ρ_ at *
                go_simp
                exact ⟨Below.refl _ _, rfl⟩
              refine allFrom_cons ?_ ?_
              · intro a_ w_ hk_
                have h121 : a_.eval (.tmp 121) = (.int .i64 (pb.length : Int)) := hk_.got 52 121 _ (by kernel_rfl) rfl rfl
                have h127 : a_.eval (.tmp 127) = (.int .i64 (2 + 40 * ((p : Int) + 1))) := hk_.got 58 127 _ (by kernel_rfl) rfl rfl
                have hg_ : a_.eval (.tmp 119) = .bool true := hk_.got 50 119 _ (by kernel_rfl) rfl rfl
                have hy_ := hk_.want 50 _ 119 true rfl rfl hg_
                have hx_ := hk_.ext
                clear hk_
                refine flow_want rfl hy_ ?_
                unfold gives
                have hc_ : ∀ v, a_.eval (.const v) = v := fun _ => rfl
                have hn_ : ∀ f, a_.eval (.func f) = .func (.func f) #[] #[] := fun _ => rfl
                clear hy_ hg_
                generalize a_.eval = ρ_ at *
                go_simp
                exact ⟨Below.refl _ _, rfl⟩
              refine allFrom_cons ?_ ?_
              · intro a_ w_ hk_
                have h119 : a_.eval (.tmp 119) = (.bool true) := hk_.got 50 119 _ (by kernel_rfl) rfl rfl
                have h128 : a_.eval (.tmp 128) = (.bool true) := hk_.got 59 128 _ (by kernel_rfl) rfl rfl
                have hx_ := hk_.ext
                clear hk_
                refine flow_plain rfl ?_
                exact gives_pick rfl h119 ⟨Below.refl _ _, h128⟩
              refine allFrom_cons ?_ ?_
              · intro a_ w_ hk_
                have h129 : a_.eval (.tmp 129) = (.bool true) := hk_.got 60 129 _ (by kernel_rfl) rfl rfl
                have hx_ := hk_.ext
                clear hk_
                refine flow_plain rfl ?_
                exact gives_move rfl ⟨Below.refl _ _, h129⟩
              refine allFrom_cons ?_ ?_
              · intro a_ w_ hk_
                have h16 : a_.eval (.tmp 16) = .int .i64 0 := hk_.old 16 (by kernel_rfl)
                have hg_ : a_.eval (.tmp 130) = .bool true := hk_.got 61 130 _ (by kernel_rfl) rfl rfl
                have hy_ := hk_.want 61 _ 130 true rfl rfl hg_
                have hx_ := hk_.ext
                clear hk_
                refine flow_want rfl hy_ ?_
                exact gives_move rfl ⟨Below.refl _ _, h16⟩
              refine allFrom_cons ?_ ?_
              · intro a_ w_ hk_
                have h131 : a_.eval (.tmp 131) = (.int .i64 0) := hk_.got 62 131 _ (by kernel_rfl) rfl rfl
                have hg_ : a_.eval (.tmp 130) = .bool true := hk_.got 61 130 _ (by kernel_rfl) rfl rfl
                have hy_ := hk_.want 61 _ 130 true rfl rfl hg_
                have hx_ := hk_.ext
                clear hk_
                refine flow_want rfl hy_ ?_
                unfold gives
                have hc_ : ∀ v, a_.eval (.const v) = v := fun _ => rfl
                have hn_ : ∀ f, a_.eval (.func f) = .func (.func f) #[] #[] := fun _ => rfl
                clear hy_ hg_
                generalize a_.eval = ρ_ at *
                go_simp
                exact ⟨Below.refl _ _, rfl⟩
              refine allFrom_cons ?_ ?_
              · intro a_ w_ hk_
                have h6 : a_.eval (.tmp 6) = .int .i64 ((p : Int) + 1) := hk_.old 6 (by kernel_rfl)
                have hg_ : a_.eval (.tmp 130) = .bool true := hk_.got 61 130 _ (by kernel_rfl) rfl rfl
                have hy_ := hk_.want 61 _ 130 true rfl rfl hg_
                have hx_ := hk_.ext
                clear hk_
                refine flow_want rfl hy_ ?_
                exact gives_move rfl ⟨Below.refl _ _, h6⟩
              refine allFrom_cons ?_ ?_
              · intro a_ w_ hk_
                have h133 : a_.eval (.tmp 133) = (.int .i64 ((p : Int) + 1)) := hk_.got 64 133 _ (by kernel_rfl) rfl rfl
                have hg_ : a_.eval (.tmp 130) = .bool true := hk_.got 61 130 _ (by kernel_rfl) rfl rfl
                have hy_ := hk_.want 61 _ 130 true rfl rfl hg_
                have hx_ := hk_.ext
                clear hk_
                refine flow_want rfl hy_ ?_
                unfold gives
                have hc_ : ∀ v, a_.eval (.const v) = v := fun _ => rfl
                have hn_ : ∀ f, a_.eval (.func f) = .func (.func f) #[] #[] := fun _ => rfl
                clear hy_ hg_
                generalize a_.eval = ρ_ at *
                go_simp
                exact ⟨Below.refl _ _, rfl⟩
              refine allFrom_cons ?_ ?_
              · intro a_ w_ hk_
                have h134 : a_.eval (.tmp 134) = (.bool true) := hk_.got 65 134 _ (by kernel_rfl) rfl rfl
                have hg_ : a_.eval (.tmp 130) = .bool true := hk_.got 61 130 _ (by kernel_rfl) rfl rfl
                have hy_ := hk_.want 61 _ 130 true rfl rfl hg_
                have hx_ := hk_.ext
                clear hk_
                refine flow_want rfl hy_ ?_
                exact gives_move rfl ⟨Below.refl _ _, h134⟩
              refine allFrom_cons ?_ ?_
              · intro a_ w_ hk_
                have h7 : a_.eval (.tmp 7) = .int .i64 0 := hk_.old 7 (by kernel_rfl)
                have hg_ : a_.eval (.tmp 135) = .bool true := hk_.got 66 135 _ (by kernel_rfl) rfl rfl
                have hy_ := hk_.want 66 _ 135 true rfl rfl hg_
                have hx_ := hk_.ext
                clear hk_
                refine flow_want rfl hy_ ?_
                exact gives_move rfl ⟨Below.refl _ _, h7⟩
              refine allFrom_cons ?_ ?_
              · intro a_ w_ hk_
                have h136 : a_.eval (.tmp 136) = (.int .i64 0) := hk_.got 67 136 _ (by kernel_rfl) rfl rfl
                have hg_ : a_.eval (.tmp 135) = .bool true := hk_.got 66 135 _ (by kernel_rfl) rfl rfl
                have hy_ := hk_.want 66 _ 135 true rfl rfl hg_
                have hx_ := hk_.ext
                clear hk_
                refine flow_want rfl hy_ ?_
                unfold gives
                have hc_ : ∀ v, a_.eval (.const v) = v := fun _ => rfl
                have hn_ : ∀ f, a_.eval (.func f) = .func (.func f) #[] #[] := fun _ => rfl
                clear hy_ hg_
                generalize a_.eval = ρ_ at *
                go_simp
                exact ⟨Below.refl _ _, rfl⟩
              refine allFrom_cons ?_ ?_
              · intro a_ w_ hk_
                have h135 : a_.eval (.tmp 135) = (.bool true) := hk_.got 66 135 _ (by kernel_rfl) rfl rfl
                have h137 : a_.eval (.tmp 137) = (.bool true) := hk_.got 68 137 _ (by kernel_rfl) rfl rfl
                have hg_ : a_.eval (.tmp 130) = .bool true := hk_.got 61 130 _ (by kernel_rfl) rfl rfl
                have hy_ := hk_.want 61 _ 130 true rfl rfl hg_
                have hx_ := hk_.ext
                clear hk_
                refine flow_want rfl hy_ ?_
                exact gives_pick rfl h135 ⟨Below.refl _ _, h137⟩
              refine allFrom_cons ?_ ?_
              · intro a_ w_ hk_
                have h132 : a_.eval (.tmp 132) = (.bool true) := hk_.got 63 132 _ (by kernel_rfl) rfl rfl
                have h138 : a_.eval (.tmp 138) = (.bool true) := hk_.got 69 138 _ (by kernel_rfl) rfl rfl
                have hg_ : a_.eval (.tmp 130) = .bool true := hk_.got 61 130 _ (by kernel_rfl) rfl rfl
                have hy_ := hk_.want 61 _ 130 true rfl rfl hg_
                have hx_ := hk_.ext
                clear hk_
                refine flow_want rfl hy_ ?_
                unfold gives
                have hc_ : ∀ v, a_.eval (.const v) = v := fun _ => rfl
                have hn_ : ∀ f, a_.eval (.func f) = .func (.func f) #[] #[] := fun _ => rfl
                clear hy_ hg_
                generalize a_.eval = ρ_ at *
                go_simp
                exact ⟨Below.refl _ _, rfl⟩
              refine allFrom_cons ?_ ?_
              · intro a_ w_ hk_
                have h130 : a_.eval (.tmp 130) = (.bool true) := hk_.got 61 130 _ (by kernel_rfl) rfl rfl
                have h139 : a_.eval (.tmp 139) = (.bool true) := hk_.got 70 139 _ (by kernel_rfl) rfl rfl
                have hx_ := hk_.ext
                clear hk_
                refine flow_plain rfl ?_
                exact gives_pick rfl h130 ⟨Below.refl _ _, h139⟩
              refine allFrom_cons ?_ ?_
              · intro a_ w_ hk_
                have h140 : a_.eval (.tmp 140) = (.bool true) := hk_.got 71 140 _ (by kernel_rfl) rfl rfl
                have hx_ := hk_.ext
                clear hk_
                refine flow_plain rfl ?_
                exact gives_assign rfl ⟨Below.refl _ _, h140⟩
              exact allFrom_nil
            intro f_ w_ hx_ hf_
            have h69 : f_ 69 = (.pointer (some ⟨g7, 0, none⟩)) := hf_ 0 69 _ (by decide) rfl rfl
            have h70 : f_ 70 = (.slice (some ⟨bK, oK, none⟩) (p + 1) cK) := hf_ 1 70 _ (by decide) rfl rfl
            have h71 : f_ 71 = (.int .i64 ((p : Int) + 1)) := hf_ 2 71 _ (by decide) rfl rfl
            have h72 : f_ 72 = (.int .i64 ((p : Int) + 1)) := hf_ 3 72 _ (by decide) rfl rfl
            have h73 : f_ 73 = (.bool true) := hf_ 4 73 _ (by decide) rfl rfl
            have h74 : f_ 74 = (.bool true) := hf_ 5 74 _ (by decide) rfl rfl
            have h75 : f_ 75 = (.pointer (some ⟨g7, 1, none⟩)) := hf_ 6 75 _ (by decide) rfl rfl
            have h76 : f_ 76 = (.slice AH 0 cH) := hf_ 7 76 _ (by decide) rfl rfl
            have h77 : f_ 77 = (.int .i64 0) := hf_ 8 77 _ (by decide) rfl rfl
            have h78 : f_ 78 = (.int .i64 0) := hf_ 9 78 _ (by decide) rfl rfl
            have h79 : f_ 79 = (.bool true) := hf_ 10 79 _ (by decide) rfl rfl
            have h80 : f_ 80 = (.bool true) := hf_ 11 80 _ (by decide) rfl rfl
            have h81 : f_ 81 = (.bool true) := hf_ 12 81 _ (by decide) rfl rfl
            have h82 : f_ 82 = (.int .i64 ((p : Int) + 1)) := hf_ 13 82 _ (by decide) rfl rfl
            have h83 : f_ 83 = (.bool false) := hf_ 14 83 _ (by decide) rfl rfl
            have h84 : f_ 84 = (.bool false) := hf_ 15 84 _ (by decide) rfl rfl
            have h85 : f_ 85 = (.pointer (some ⟨g7, 0, none⟩)) := hf_ 16 85 _ (by decide) rfl rfl
            have h86 : f_ 86 = (.slice (some ⟨bK, oK, none⟩) (p + 1) cK) := hf_ 17 86 _ (by decide) rfl rfl
            have h87 : f_ 87 = (.int .i64 ((p : Int) + 1)) := hf_ 18 87 _ (by decide) rfl rfl
            have h88 : f_ 88 = (.int .i64 (p : Int)) := hf_ 19 88 _ (by decide) rfl rfl
            have h89 : f_ 89 = (.pointer (some ⟨bK, oK + p * 33, none⟩)) := hf_ 20 89 _ (by decide) rfl rfl
            have h90 : f_ 90 = (.pointer (some ⟨bK, oK + p * 33, none⟩)) := hf_ 21 90 _ (by decide) rfl rfl
            have h91 : f_ 91 = (.int .u64 (p : Int)) := hf_ 22 91 _ (by decide) rfl rfl
            have h92 : f_ 92 = (.int .i64 ((p : Int) + 1)) := hf_ 23 92 _ (by decide) rfl rfl
            have h93 : f_ 93 = (.int .i64 (p : Int)) := hf_ 24 93 _ (by decide) rfl rfl
            have h94 : f_ 94 = (.int .u64 (p : Int)) := hf_ 25 94 _ (by decide) rfl rfl
            have h95 : f_ 95 = (.bool true) := hf_ 26 95 _ (by decide) rfl rfl
            have h96 : f_ 96 = (.bool true) := hf_ 27 96 _ (by decide) rfl rfl
            have h97 : f_ 97 = (.bool true) := hf_ 28 97 _ (by decide) rfl rfl
            have h98 : f_ 98 = (.bool true) := hf_ 29 98 _ (by decide) rfl rfl
            have h99 : f_ 99 = (.int .i64 0) := hf_ 30 99 _ (by decide) rfl rfl
            have h100 : f_ 100 = (.bool true) := hf_ 31 100 _ (by decide) rfl rfl
            have h101 : f_ 101 = (.bool true) := hf_ 32 101 _ (by decide) rfl rfl
            have h113 : f_ 113 = (.bool true) := hf_ 44 113 _ (by decide) rfl rfl
            have h114 : f_ 114 = (.bool true) := hf_ 45 114 _ (by decide) rfl rfl
            have h115 : f_ 115 = (.bool true) := hf_ 46 115 _ (by decide) rfl rfl
            have h116 : f_ 116 = (.int .i64 0) := hf_ 47 116 _ (by decide) rfl rfl
            have h117 : f_ 117 = (.bool true) := hf_ 48 117 _ (by decide) rfl rfl
            have h118 : f_ 118 = (.bool true) := hf_ 49 118 _ (by decide) rfl rfl
            have h119 : f_ 119 = (.bool true) := hf_ 50 119 _ (by decide) rfl rfl
            have h120 : f_ 120 = (.slice AP pb.length cP) := hf_ 51 120 _ (by decide) rfl rfl
            have h121 : f_ 121 = (.int .i64 (pb.length : Int)) := hf_ 52 121 _ (by decide) rfl rfl
            have h122 : f_ 122 = (.int .i64 ((p : Int) + 1)) := hf_ 53 122 _ (by decide) rfl rfl
            have h123 : f_ 123 = (.int .i64 (40 * ((p : Int) + 1))) := hf_ 54 123 _ (by decide) rfl rfl
            have h124 : f_ 124 = (.int .i64 (2 + 40 * ((p : Int) + 1))) := hf_ 55 124 _ (by decide) rfl rfl
            have h125 : f_ 125 = (.int .i64 0) := hf_ 56 125 _ (by decide) rfl rfl
            have h126 : f_ 126 = (.int .i64 (0)) := hf_ 57 126 _ (by decide) rfl rfl
            have h127 : f_ 127 = (.int .i64 (2 + 40 * ((p : Int) + 1))) := hf_ 58 127 _ (by decide) rfl rfl
            have h128 : f_ 128 = (.bool true) := hf_ 59 128 _ (by decide) rfl rfl
            have h129 : f_ 129 = (.bool true) := hf_ 60 129 _ (by decide) rfl rfl
            have h130 : f_ 130 = (.bool true) := hf_ 61 130 _ (by decide) rfl rfl
            have h131 : f_ 131 = (.int .i64 0) := hf_ 62 131 _ (by decide) rfl rfl
            have h132 : f_ 132 = (.bool true) := hf_ 63 132 _ (by decide) rfl rfl
            have h133 : f_ 133 = (.int .i64 ((p : Int) + 1)) := hf_ 64 133 _ (by decide) rfl rfl
            have h134 : f_ 134 = (.bool true) := hf_ 65 134 _ (by decide) rfl rfl
            have h135 : f_ 135 = (.bool true) := hf_ 66 135 _ (by decide) rfl rfl
            have h136 : f_ 136 = (.int .i64 0) := hf_ 67 136 _ (by decide) rfl rfl
            have h137 : f_ 137 = (.bool true) := hf_ 68 137 _ (by decide) rfl rfl
            have h138 : f_ 138 = (.bool true) := hf_ 69 138 _ (by decide) rfl rfl
            have h139 : f_ 139 = (.bool true) := hf_ 70 139 _ (by decide) rfl rfl
            have h140 : f_ 140 = (.bool true) := hf_ 71 140 _ (by decide) rfl rfl
            have h4 : f_ 4 = (.bool true) := hf_ 72 4 _ (by decide) rfl rfl
            simp only [mix, h69, h70, h71, h72, h73, h74, h75, h76, h77, h78, h79, h80, h81, h82, h83, h84, h85, h86, h87, h88, h89, h90, h91, h92, h93, h94, h95, h96, h97, h98, h99, h100, h101, h113, h114, h115, h116, h117, h118, h119, h120, h121, h122, h123, h124, h125, h126, h127, h128, h129, h130, h131, h132, h133, h134, h135, h136, h137, h138, h139, h140, h4]
            clear h69 h70 h71 h72 h73 h74 h75 h76 h77 h78 h79 h80 h81 h82 h83 h84 h85 h86 h87 h88 h89 h90 h91 h92 h93 h94 h95 h96 h97 h98 h99 h100 h101 h113 h114 h115 h116 h117 h118 h119 h120 h121 h122 h123 h124 h125 h126 h127 h128 h129 h130 h131 h132 h133 h134 h135 h136 h137 h138 h139 h140 h4
            clear hf_
            go_wp2
            go_ret
            exact ⟨rfl, bx_trans hb010 hx_⟩
          obtain ⟨r, rfl⟩ : ∃ r, k = r + 1 := ⟨k - 1, by omega⟩
          by_cases hk32 : r + 1 ≤ 32
          · go_wp2_with fail
            refine (Put_any w9 hok1 hok2 (own_rd hKc) (own_rd hHc) (by rw [HLN.out]; omega) (by rw [HLM.out]; omega)).mono ?_
            rintro e w10 ⟨vq, rfl, hQ10, hb10⟩
            obtain ⟨AQ, cQ, rfl, _, _, _⟩ := own_form hQ10
            clear hQ10
            have hxl : (last32 kl).length = (p + 1) := by have := HL1.out; omega
            obtain ⟨hlt1, hit1⟩ := HK1.out (by omega)
            obtain ⟨bK, oK, hE, hbK, hdK⟩ := rd_item (i := (last32 kl).length - 1) (own_rd hK9) (mapLenK ho1) (by decide) (by rw [List.length_map]; exact hlt1)
            rw [List.getElem_map, hit1] at hdK
            subst hE
            have hdk0 := hdK 0 _ rfl
            rw [hxl] at hdk0
            have hdk1 : w9.cell? ⟨bK, oK + p * 33, none⟩ = some (.int .u64 (p : Int)) := by simpa using hdk0
            have hbK10 := Nat.lt_of_lt_of_le hbK hb10.size
            have hdk2 := fun (w_ : World) (hx_ : Below w10.heap.size w10 w_) => (hx_.cell (p := ⟨bK, oK + p * 33, none⟩) hbK10).trans ((hb10.cell (p := ⟨bK, oK + p * 33, none⟩) hbK).trans hdk1)
            clear hdk0 hdk1 hdK hlt1 hit1
            have hyl : (last32 hl).length = (r + 1) := by have := HL2.out; omega
            obtain ⟨hlt2, hit2⟩ := HK2.out (by omega)
            obtain ⟨bH, oH, hE, hbH, hdH⟩ := rd_item (i := (last32 hl).length - 1) (own_rd hH9) (mapLenH ho2) (by decide) (by rw [List.length_map]; exact hlt2)
            rw [List.getElem_map, hit2, hyl] at hdH
            subst hE
            have hdh0 : ∀ j v, (hc (hashB r))[j]? = some v → w9.cell? ⟨bH, oH + r * 32 + j, none⟩ = some v := fun j v hv => by (have := hdH j v (by simpa using hv); simpa using this)
            have hbH10 := Nat.lt_of_lt_of_le hbH hb10.size
            have hdh2 := fun (w_ : World) (hx_ : Below w10.heap.size w10 w_) j v hv => (hx_.cell (p := ⟨bH, oH + r * 32 + j, none⟩) hbH10).trans ((hb10.cell (p := ⟨bH, oH + r * 32 + j, none⟩) hbH).trans (hdh0 j v hv))
            clear hdh0 hdH hlt2 hit2
            have hb010 := bx_trans hb09 hb10
            have hD9 := hD9.below hb10 hD9.lt
            rw [hxl, hyl] at HPL hD9
            clear hxl hyl hK9 hH9 hKc hHc hb09 hb10 HLN HLM HL1 HL2 HK1 HK2
            have fa1 : ¬ ((p : Int) + 1 = 0) := by omega
            have fa4 : IntKind.i64.wrap (p : Int) = (p : Int) := wr_i64 _ (by omega) (by omega)
            have fa5 : IntKind.u64.wrap (p : Int) = (p : Int) := by simp [IntKind.wrap, IntKind.bits, IntKind.signed]; omega
            have fa6 : (p : Int) + 1 ≤ 32 := by omega
            have fk1 : ¬ ((r : Int) + 1 = 0) := by omega
            have fk4 : IntKind.i64.wrap (r : Int) = (r : Int) := wr_i64 _ (by omega) (by omega)
            have fk5 : IntKind.u8.wrap (r : Int) = (r : Int) := by simp [IntKind.wrap, IntKind.bits, IntKind.signed]; omega
            have hr256 : r < 256 := by omega
            have fk6 : (r : Int) + 1 ≤ 32 := by omega
            have fw1 : IntKind.i64.wrap (40 * ((p : Int) + 1)) = 40 * ((p : Int) + 1) := wr_i64 _ (by omega) (by omega)
            have fw2 : IntKind.i64.wrap (2 + 40 * ((p : Int) + 1)) = 2 + 40 * ((p : Int) + 1) := wr_i64 _ (by omega) (by omega)
            have fw3 : IntKind.i64.wrap (32 * ((r : Int) + 1)) = 32 * ((r : Int) + 1) := wr_i64 _ (by omega) (by omega)
            have fw4 : IntKind.i64.wrap (2 + 40 * ((p : Int) + 1) + 32 * ((r : Int) + 1)) = 2 + 40 * ((p : Int) + 1) + 32 * ((r : Int) + 1) := wr_i64 _ (by omega) (by omega)
            have fw5 : (pb.length : Int) = 2 + 40 * ((p : Int) + 1) + 32 * ((r : Int) + 1) := by have := HPL.out; omega
            simp only []
            repeat ((fail_if_success (with_reducible refine wpHalt 21 ?_)); first | go_skip | go_guarded | go_step)
            refine wp_region_lit ?_
            refine wp_flowSE [0, 1, 3, 7, 15, 31, 63, 127, 255, 511, 1023, 2047, 4095, 8191, 16383, 32767, 65535, 131071, 262143, 524287, 1048575, 2097151, 4194303, 8388607, 16777215, 33554431, 67108863, 134217727, 268435455, 536870911, 1073741823, 2147483647, 4294967295, 8589934591, 17179869183, 34359738367, 68719476735, 137438953471, 274877906943, 549755813887, 1099511627775, 2199023255551, 4398046511103, 8796093022207, 17592186044415, 35184372088831, 70368744177663, 140737488355327, 281474976710655, 562949953421311, 1125899906842623, 2251799813685247, 4503599627370495, 9007199254740991, 18014398509481983, 36028797018963967, 72057594037927935, 144115188075855871, 288230376151711743, 576460752303423487, 1152921504606846975, 2305843009213693951, 4611686018427387903, 9223372036854775807, 18446744073709551615, 36893488147419103231, 73786976294838206463, 147573952589676412927, 295147905179352825855, 590295810358705651711, 1180591620717411303423, 2361183241434822606847, 4722366482869645213695] 73 [false, false, false, false, true, false, false, false, false, false, false, false, false, false, false, false, false, false, false, false, false, false, false, false, false, false, false, false, false, false, false, false, false, false, false, false, false, false, false, false, false, false, false, false, false, false, false, false, false, false, false, false, false, false, false, false, false, false, false, false, false, false, false, false, false, false, false, false, false, true, true, true, true, true, true, true, true, true, true, true, true, true, true, true, true, true, true, true, true, true, true, true, true, true, true, true, true, true, true, true, true, true, true, true, true, true, true, true, true, true, true, true, true, true, true, true, true, true, true, true, true, true, true, true, true, true, true, true, true, true, true, true, true, true, true, true, true, true, true, true, true] (by kernel_rfl) (by kernel_rfl) (by kernel_rfl) [FP.eq (.pointer (some ⟨g7, 0, none⟩)), FP.eq (.slice (some ⟨bK, oK, none⟩) (p + 1) cK), FP.eq (.int .i64 ((p : Int) + 1)), FP.eq (.int .i64 ((p : Int) + 1)), FP.eq (.bool true), FP.eq (.bool true), FP.eq (.pointer (some ⟨g7, 1, none⟩)), FP.eq (.slice (some ⟨bH, oH, none⟩) (r + 1) cH), FP.eq (.int .i64 ((r : Int) + 1)), FP.eq (.int .i64 ((r : Int) + 1)), FP.eq (.bool true), FP.eq (.bool true), FP.eq (.bool true), FP.eq (.int .i64 ((p : Int) + 1)), FP.eq (.bool false), FP.eq (.bool false), FP.eq (.pointer (some ⟨g7, 0, none⟩)), FP.eq (.slice (some ⟨bK, oK, none⟩) (p + 1) cK), FP.eq (.int .i64 ((p : Int) + 1)), FP.eq (.int .i64 (p : Int)), FP.eq (.pointer (some ⟨bK, oK + p * 33, none⟩)), FP.eq (.pointer (some ⟨bK, oK + p * 33, none⟩)), FP.eq (.int .u64 (p : Int)), FP.eq (.int .i64 ((p : Int) + 1)), FP.eq (.int .i64 (p : Int)), FP.eq (.int .u64 (p : Int)), FP.eq (.bool true), FP.eq (.bool true), FP.eq (.bool true), FP.eq (.bool true), FP.eq (.int .i64 ((r : Int) + 1)), FP.eq (.bool false), FP.eq (.bool false), FP.eq (.pointer (some ⟨g7, 1, none⟩)), FP.eq (.slice (some ⟨bH, oH, none⟩) (r + 1) cH), FP.eq (.int .i64 ((r : Int) + 1)), FP.eq (.int .i64 (r : Int)), FP.eq (.pointer (some ⟨bH, oH + r * 32, none⟩)), FP.eq (.agg (hc (hashB r)).toArray), FP.eq (.int .i64 ((r : Int) + 1)), FP.eq (.int .i64 (r : Int)), FP.eq (.int .u8 (r : Int)), FP.eq (.agg (hc (hashB r)).toArray), FP.eq (.bool true), FP.eq (.bool true), FP.eq (.bool true), FP.eq (.bool true), FP.eq (.int .i64 0), FP.eq (.bool true), FP.eq (.bool true), FP.eq (.bool true), FP.eq (.slice AP pb.length cP), FP.eq (.int .i64 (pb.length : Int)), FP.eq (.int .i64 ((p : Int) + 1)), FP.eq (.int .i64 (40 * ((p : Int) + 1))), FP.eq (.int .i64 (2 + 40 * ((p : Int) + 1))), FP.eq (.int .i64 ((r : Int) + 1)), FP.eq (.int .i64 (32 * ((r : Int) + 1))), FP.eq (.int .i64 (2 + 40 * ((p : Int) + 1) + 32 * ((r : Int) + 1))), FP.eq (.bool true), FP.eq (.bool true), FP.eq (.bool true), FP.eq (.int .i64 0), FP.eq (.bool true), FP.eq (.int .i64 ((p : Int) + 1)), FP.eq (.bool true), FP.eq (.bool true), FP.eq (.int .i64 ((r : Int) + 1)), FP.eq (.bool true), FP.eq (.bool true), FP.eq (.bool true), FP.eq (.bool true), FP.eq (.bool true)] ?_ ?_
            · refine allFrom_cons ?_ ?_
              · intro a_ w_ hk_
                have h12 : a_.eval (.tmp 12) = .pointer (some ⟨g7, 0, none⟩) := hk_.old 12 (by kernel_rfl)
                have hx_ := hk_.ext
                clear hk_
                refine flow_plain rfl ?_
                unfold gives
                have hc_ : ∀ v, a_.eval (.const v) = v := fun _ => rfl
                have hn_ : ∀ f, a_.eval (.func f) = .func (.func f) #[] #[] := fun _ => rfl
                generalize a_.eval = ρ_ at *
                go_simp
                exact ⟨Below.refl _ _, rfl⟩
              refine allFrom_cons ?_ ?_
              · intro a_ w_ hk_
                have h69 : a_.eval (.tmp 69) = (.pointer (some ⟨g7, 0, none⟩)) := hk_.got 0 69 _ (by kernel_rfl) rfl rfl
                have hx_ := hk_.ext
                clear hk_
                refine flow_plain rfl ?_
                unfold gives
                have hc_ : ∀ v, a_.eval (.const v) = v := fun _ => rfl
                have hn_ : ∀ f, a_.eval (.func f) = .func (.func f) #[] #[] := fun _ => rfl
                have hcell := (hD9.below hx_ hD9.lt).cell 0
                generalize a_.eval = ρ_ at *
                go_simp
                exact ⟨Below.refl _ _, rfl⟩
              refine allFrom_cons ?_ ?_
              · intro a_ w_ hk_
                have h70 : a_.eval (.tmp 70) = (.slice (some ⟨bK, oK, none⟩) (p + 1) cK) := hk_.got 1 70 _ (by kernel_rfl) rfl rfl
                have hx_ := hk_.ext
                clear hk_
                refine flow_plain rfl ?_
                unfold gives
                have hc_ : ∀ v, a_.eval (.const v) = v := fun _ => rfl
                have hn_ : ∀ f, a_.eval (.func f) = .func (.func f) #[] #[] := fun _ => rfl
                generalize a_.eval = ρ_ at *
                go_simp
                exact ⟨Below.refl _ _, rfl⟩
              refine allFrom_cons ?_ ?_
              · intro a_ w_ hk_
                have h17 : a_.eval (.tmp 17) = .int .i64 ((p : Int) + 1) := hk_.old 17 (by kernel_rfl)
                have hx_ := hk_.ext
                clear hk_
                refine flow_plain rfl ?_
                exact gives_move rfl ⟨Below.refl _ _, h17⟩
              refine allFrom_cons ?_ ?_
              · intro a_ w_ hk_
                have h71 : a_.eval (.tmp 71) = (.int .i64 ((p : Int) + 1)) := hk_.got 2 71 _ (by kernel_rfl) rfl rfl
                have h72 : a_.eval (.tmp 72) = (.int .i64 ((p : Int) + 1)) := hk_.got 3 72 _ (by kernel_rfl) rfl rfl
                have hx_ := hk_.ext
                clear hk_
                refine flow_plain rfl ?_
                unfold gives
                have hc_ : ∀ v, a_.eval (.const v) = v := fun _ => rfl
                have hn_ : ∀ f, a_.eval (.func f) = .func (.func f) #[] #[] := fun _ => rfl
                generalize a_.eval = ρ_ at *
                go_simp
                exact ⟨Below.refl _ _, rfl⟩
              refine allFrom_cons ?_ ?_
              · intro a_ w_ hk_
                have h73 : a_.eval (.tmp 73) = (.bool true) := hk_.got 4 73 _ (by kernel_rfl) rfl rfl
                have hx_ := hk_.ext
                clear hk_
                refine flow_plain rfl ?_
                exact gives_move rfl ⟨Below.refl _ _, h73⟩
              refine allFrom_cons ?_ ?_
              · intro a_ w_ hk_
                have h12 : a_.eval (.tmp 12) = .pointer (some ⟨g7, 0, none⟩) := hk_.old 12 (by kernel_rfl)
                have hg_ : a_.eval (.tmp 74) = .bool true := hk_.got 5 74 _ (by kernel_rfl) rfl rfl
                have hy_ := hk_.want 5 _ 74 true rfl rfl hg_
                have hx_ := hk_.ext
                clear hk_
                refine flow_want rfl hy_ ?_
                unfold gives
                have hc_ : ∀ v, a_.eval (.const v) = v := fun _ => rfl
                have hn_ : ∀ f, a_.eval (.func f) = .func (.func f) #[] #[] := fun _ => rfl
                clear hy_ hg_
                generalize a_.eval = ρ_ at *
                go_simp
                exact ⟨Below.refl _ _, rfl⟩
              refine allFrom_cons ?_ ?_
              · intro a_ w_ hk_
                have h75 : a_.eval (.tmp 75) = (.pointer (some ⟨g7, 1, none⟩)) := hk_.got 6 75 _ (by kernel_rfl) rfl rfl
                have hg_ : a_.eval (.tmp 74) = .bool true := hk_.got 5 74 _ (by kernel_rfl) rfl rfl
                have hy_ := hk_.want 5 _ 74 true rfl rfl hg_
                have hx_ := hk_.ext
                clear hk_
                refine flow_want rfl hy_ ?_
                unfold gives
                have hc_ : ∀ v, a_.eval (.const v) = v := fun _ => rfl
                have hn_ : ∀ f, a_.eval (.func f) = .func (.func f) #[] #[] := fun _ => rfl
                clear hy_ hg_
                have hcell := (hD9.below hx_ hD9.lt).cell 1
                generalize a_.eval = ρ_ at *
                go_simp
                exact ⟨Below.refl _ _, rfl⟩
              refine allFrom_cons ?_ ?_
              · intro a_ w_ hk_
                have h76 : a_.eval (.tmp 76) = (.slice (some ⟨bH, oH, none⟩) (r + 1) cH) := hk_.got 7 76 _ (by kernel_rfl) rfl rfl
                have hg_ : a_.eval (.tmp 74) = .bool true := hk_.got 5 74 _ (by kernel_rfl) rfl rfl
                have hy_ := hk_.want 5 _ 74 true rfl rfl hg_
                have hx_ := hk_.ext
                clear hk_
                refine flow_want rfl hy_ ?_
                unfold gives
                have hc_ : ∀ v, a_.eval (.const v) = v := fun _ => rfl
                have hn_ : ∀ f, a_.eval (.func f) = .func (.func f) #[] #[] := fun _ => rfl
                clear hy_ hg_
                generalize a_.eval = ρ_ at *
                go_simp
                exact ⟨Below.refl _ _, rfl⟩
              refine allFrom_cons ?_ ?_
              · intro a_ w_ hk_
                have h18 : a_.eval (.tmp 18) = .int .i64 ((r : Int) + 1) := hk_.old 18 (by kernel_rfl)
                have hg_ : a_.eval (.tmp 74) = .bool true := hk_.got 5 74 _ (by kernel_rfl) rfl rfl
                have hy_ := hk_.want 5 _ 74 true rfl rfl hg_
                have hx_ := hk_.ext
                clear hk_
                refine flow_want rfl hy_ ?_
                exact gives_move rfl ⟨Below.refl _ _, h18⟩
              refine allFrom_cons ?_ ?_
              · intro a_ w_ hk_
                have h77 : a_.eval (.tmp 77) = (.int .i64 ((r : Int) + 1)) := hk_.got 8 77 _ (by kernel_rfl) rfl rfl
                have h78 : a_.eval (.tmp 78) = (.int .i64 ((r : Int) + 1)) := hk_.got 9 78 _ (by kernel_rfl) rfl rfl
                have hg_ : a_.eval (.tmp 74) = .bool true := hk_.got 5 74 _ (by kernel_rfl) rfl rfl
                have hy_ := hk_.want 5 _ 74 true rfl rfl hg_
                have hx_ := hk_.ext
                clear hk_
                refine flow_want rfl hy_ ?_
                unfold gives
                have hc_ : ∀ v, a_.eval (.const v) = v := fun _ => rfl
                have hn_ : ∀ f, a_.eval (.func f) = .func (.func f) #[] #[] := fun _ => rfl
                clear hy_ hg_
                generalize a_.eval = ρ_ at *
                go_simp
                exact ⟨Below.refl _ _, rfl⟩
              refine allFrom_cons ?_ ?_
              · intro a_ w_ hk_
                have h74 : a_.eval (.tmp 74) = (.bool true) := hk_.got 5 74 _ (by kernel_rfl) rfl rfl
                have h79 : a_.eval (.tmp 79) = (.bool true) := hk_.got 10 79 _ (by kernel_rfl) rfl rfl
                have hx_ := hk_.ext
                clear hk_
                refine flow_plain rfl ?_
                exact gives_pick rfl h74 ⟨Below.refl _ _, h79⟩
              refine allFrom_cons ?_ ?_
              · intro a_ w_ hk_
                have h80 : a_.eval (.tmp 80) = (.bool true) := hk_.got 11 80 _ (by kernel_rfl) rfl rfl
                have hx_ := hk_.ext
                clear hk_
                refine flow_plain rfl ?_
                exact gives_move rfl ⟨Below.refl _ _, h80⟩
              refine allFrom_cons ?_ ?_
              · intro a_ w_ hk_
                have h17 : a_.eval (.tmp 17) = .int .i64 ((p : Int) + 1) := hk_.old 17 (by kernel_rfl)
                have hg_ : a_.eval (.tmp 81) = .bool true := hk_.got 12 81 _ (by kernel_rfl) rfl rfl
                have hy_ := hk_.want 12 _ 81 true rfl rfl hg_
                have hx_ := hk_.ext
                clear hk_
                refine flow_want rfl hy_ ?_
                exact gives_move rfl ⟨Below.refl _ _, h17⟩
              refine allFrom_cons ?_ ?_
              · intro a_ w_ hk_
                have h82 : a_.eval (.tmp 82) = (.int .i64 ((p : Int) + 1)) := hk_.got 13 82 _ (by kernel_rfl) rfl rfl
                have hg_ : a_.eval (.tmp 81) = .bool true := hk_.got 12 81 _ (by kernel_rfl) rfl rfl
                have hy_ := hk_.want 12 _ 81 true rfl rfl hg_
                have hx_ := hk_.ext
                clear hk_
                refine flow_want rfl hy_ ?_
                unfold gives
                have hc_ : ∀ v, a_.eval (.const v) = v := fun _ => rfl
                have hn_ : ∀ f, a_.eval (.func f) = .func (.func f) #[] #[] := fun _ => rfl
                clear hy_ hg_
                generalize a_.eval = ρ_ at *
                go_simp
                exact ⟨Below.refl _ _, rfl⟩
              refine allFrom_cons ?_ ?_
              · intro a_ w_ hk_
                have h83 : a_.eval (.tmp 83) = (.bool false) := hk_.got 14 83 _ (by kernel_rfl) rfl rfl
                have hg_ : a_.eval (.tmp 81) = .bool true := hk_.got 12 81 _ (by kernel_rfl) rfl rfl
                have hy_ := hk_.want 12 _ 81 true rfl rfl hg_
                have hx_ := hk_.ext
                clear hk_
                refine flow_want rfl hy_ ?_
                exact gives_move rfl ⟨Below.refl _ _, h83⟩
              refine allFrom_cons ?_ ?_
              · intro a_ w_ hk_
                have h12 : a_.eval (.tmp 12) = .pointer (some ⟨g7, 0, none⟩) := hk_.old 12 (by kernel_rfl)
                have hg_ : a_.eval (.tmp 84) = .bool false := hk_.got 15 84 _ (by kernel_rfl) rfl rfl
                have hy_ := hk_.want 15 _ 84 false rfl rfl hg_
                have hx_ := hk_.ext
                clear hk_
                refine flow_want rfl hy_ ?_
                unfold gives
                have hc_ : ∀ v, a_.eval (.const v) = v := fun _ => rfl
                have hn_ : ∀ f, a_.eval (.func f) = .func (.func f) #[] #[] := fun _ => rfl
                clear hy_ hg_
                generalize a_.eval = ρ_ at *
                go_simp
                exact ⟨Below.refl _ _, rfl⟩
              refine allFrom_cons ?_ ?_
              · intro a_ w_ hk_
                have h85 : a_.eval (.tmp 85) = (.pointer (some ⟨g7, 0, none⟩)) := hk_.got 16 85 _ (by kernel_rfl) rfl rfl
                have hg_ : a_.eval (.tmp 84) = .bool false := hk_.got 15 84 _ (by kernel_rfl) rfl rfl
                have hy_ := hk_.want 15 _ 84 false rfl rfl hg_
                have hx_ := hk_.ext
                clear hk_
                refine flow_want rfl hy_ ?_
                unfold gives
                have hc_ : ∀ v, a_.eval (.const v) = v := fun _ => rfl
                have hn_ : ∀ f, a_.eval (.func f) = .func (.func f) #[] #[] := fun _ => rfl
                clear hy_ hg_
                have hcell := (hD9.below hx_ hD9.lt).cell 0
                generalize a_.eval = ρ_ at *
                go_simp
                exact ⟨Below.refl _ _, rfl⟩
              refine allFrom_cons ?_ ?_
              · intro a_ w_ hk_
                have h17 : a_.eval (.tmp 17) = .int .i64 ((p : Int) + 1) := hk_.old 17 (by kernel_rfl)
                have hg_ : a_.eval (.tmp 84) = .bool false := hk_.got 15 84 _ (by kernel_rfl) rfl rfl
                have hy_ := hk_.want 15 _ 84 false rfl rfl hg_
                have hx_ := hk_.ext
                clear hk_
                refine flow_want rfl hy_ ?_
                exact gives_move rfl ⟨Below.refl _ _, h17⟩
              refine allFrom_cons ?_ ?_
              · intro a_ w_ hk_
                have h87 : a_.eval (.tmp 87) = (.int .i64 ((p : Int) + 1)) := hk_.got 18 87 _ (by kernel_rfl) rfl rfl
                have hg_ : a_.eval (.tmp 84) = .bool false := hk_.got 15 84 _ (by kernel_rfl) rfl rfl
                have hy_ := hk_.want 15 _ 84 false rfl rfl hg_
                have hx_ := hk_.ext
                clear hk_
                refine flow_want rfl hy_ ?_
                unfold gives
                have hc_ : ∀ v, a_.eval (.const v) = v := fun _ => rfl
                have hn_ : ∀ f, a_.eval (.func f) = .func (.func f) #[] #[] := fun _ => rfl
                clear hy_ hg_
                generalize a_.eval = ρ_ at *
                go_simp
                exact ⟨Below.refl _ _, rfl⟩
              refine allFrom_cons ?_ ?_
              · intro a_ w_ hk_
                have h86 : a_.eval (.tmp 86) = (.slice (some ⟨bK, oK, none⟩) (p + 1) cK) := hk_.got 17 86 _ (by kernel_rfl) rfl rfl
                have h88 : a_.eval (.tmp 88) = (.int .i64 (p : Int)) := hk_.got 19 88 _ (by kernel_rfl) rfl rfl
                have hg_ : a_.eval (.tmp 84) = .bool false := hk_.got 15 84 _ (by kernel_rfl) rfl rfl
                have hy_ := hk_.want 15 _ 84 false rfl rfl hg_
                have hx_ := hk_.ext
                clear hk_
                refine flow_want rfl hy_ ?_
                unfold gives
                have hc_ : ∀ v, a_.eval (.const v) = v := fun _ => rfl
                have hn_ : ∀ f, a_.eval (.func f) = .func (.func f) #[] #[] := fun _ => rfl
                clear hy_ hg_
                have hlt_ : (p : Int) < (p : Int) + 1 := by omega
                generalize a_.eval = ρ_ at *
                go_simp
                exact ⟨Below.refl _ _, rfl⟩
              refine allFrom_cons ?_ ?_
              · intro a_ w_ hk_
                have h89 : a_.eval (.tmp 89) = (.pointer (some ⟨bK, oK + p * 33, none⟩)) := hk_.got 20 89 _ (by kernel_rfl) rfl rfl
                have hg_ : a_.eval (.tmp 84) = .bool false := hk_.got 15 84 _ (by kernel_rfl) rfl rfl
                have hy_ := hk_.want 15 _ 84 false rfl rfl hg_
                have hx_ := hk_.ext
                clear hk_
                refine flow_want rfl hy_ ?_
                unfold gives
                have hc_ : ∀ v, a_.eval (.const v) = v := fun _ => rfl
                have hn_ : ∀ f, a_.eval (.func f) = .func (.func f) #[] #[] := fun _ => rfl
                clear hy_ hg_
                generalize a_.eval = ρ_ at *
                go_simp
                exact ⟨Below.refl _ _, rfl⟩
              refine allFrom_cons ?_ ?_
              · intro a_ w_ hk_
                have h90 : a_.eval (.tmp 90) = (.pointer (some ⟨bK, oK + p * 33, none⟩)) := hk_.got 21 90 _ (by kernel_rfl) rfl rfl
                have hg_ : a_.eval (.tmp 84) = .bool false := hk_.got 15 84 _ (by kernel_rfl) rfl rfl
                have hy_ := hk_.want 15 _ 84 false rfl rfl hg_
                have hx_ := hk_.ext
                clear hk_
                refine flow_want rfl hy_ ?_
                unfold gives
                have hc_ : ∀ v, a_.eval (.const v) = v := fun _ => rfl
                have hn_ : ∀ f, a_.eval (.func f) = .func (.func f) #[] #[] := fun _ => rfl
                clear hy_ hg_
                have hcell := hdk2 _ hx_
                generalize a_.eval = ρ_ at *
                go_simp
                exact ⟨Below.refl _ _, rfl⟩
              refine allFrom_cons ?_ ?_
              · intro a_ w_ hk_
                have h6 : a_.eval (.tmp 6) = .int .i64 ((p : Int) + 1) := hk_.old 6 (by kernel_rfl)
                have hg_ : a_.eval (.tmp 84) = .bool false := hk_.got 15 84 _ (by kernel_rfl) rfl rfl
                have hy_ := hk_.want 15 _ 84 false rfl rfl hg_
                have hx_ := hk_.ext
                clear hk_
                refine flow_want rfl hy_ ?_
                exact gives_move rfl ⟨Below.refl _ _, h6⟩
              refine allFrom_cons ?_ ?_
              · intro a_ w_ hk_
                have h92 : a_.eval (.tmp 92) = (.int .i64 ((p : Int) + 1)) := hk_.got 23 92 _ (by kernel_rfl) rfl rfl
                have hg_ : a_.eval (.tmp 84) = .bool false := hk_.got 15 84 _ (by kernel_rfl) rfl rfl
                have hy_ := hk_.want 15 _ 84 false rfl rfl hg_
                have hx_ := hk_.ext
                clear hk_
                refine flow_want rfl hy_ ?_
                unfold gives
                have hc_ : ∀ v, a_.eval (.const v) = v := fun _ => rfl
                have hn_ : ∀ f, a_.eval (.func f) = .func (.func f) #[] #[] := fun _ => rfl
                clear hy_ hg_
                generalize a_.eval = ρ_ at *
                go_simp
                exact ⟨Below.refl _ _, rfl⟩
              refine allFrom_cons ?_ ?_
              · intro a_ w_ hk_
                have h93 : a_.eval (.tmp 93) = (.int .i64 (p : Int)) := hk_.got 24 93 _ (by kernel_rfl) rfl rfl
                have hg_ : a_.eval (.tmp 84) = .bool false := hk_.got 15 84 _ (by kernel_rfl) rfl rfl
                have hy_ := hk_.want 15 _ 84 false rfl rfl hg_
                have hx_ := hk_.ext
                clear hk_
                refine flow_want rfl hy_ ?_
                unfold gives
                have hc_ : ∀ v, a_.eval (.const v) = v := fun _ => rfl
                have hn_ : ∀ f, a_.eval (.func f) = .func (.func f) #[] #[] := fun _ => rfl
                clear hy_ hg_
                generalize a_.eval = ρ_ at *
                go_simp
                exact ⟨Below.refl _ _, rfl⟩
              refine allFrom_cons ?_ ?_
              · intro a_ w_ hk_
                have h91 : a_.eval (.tmp 91) = (.int .u64 (p : Int)) := hk_.got 22 91 _ (by kernel_rfl) rfl rfl
                have h94 : a_.eval (.tmp 94) = (.int .u64 (p : Int)) := hk_.got 25 94 _ (by kernel_rfl) rfl rfl
                have hg_ : a_.eval (.tmp 84) = .bool false := hk_.got 15 84 _ (by kernel_rfl) rfl rfl
                have hy_ := hk_.want 15 _ 84 false rfl rfl hg_
                have hx_ := hk_.ext
                clear hk_
                refine flow_want rfl hy_ ?_
                unfold gives
                have hc_ : ∀ v, a_.eval (.const v) = v := fun _ => rfl
                have hn_ : ∀ f, a_.eval (.func f) = .func (.func f) #[] #[] := fun _ => rfl
                clear hy_ hg_
                generalize a_.eval = ρ_ at *
                go_simp
                exact ⟨Below.refl _ _, rfl⟩
              refine allFrom_cons ?_ ?_
              · intro a_ w_ hk_
                have h84 : a_.eval (.tmp 84) = (.bool false) := hk_.got 15 84 _ (by kernel_rfl) rfl rfl
                have h95 : a_.eval (.tmp 95) = (.bool true) := hk_.got 26 95 _ (by kernel_rfl) rfl rfl
                have hg_ : a_.eval (.tmp 81) = .bool true := hk_.got 12 81 _ (by kernel_rfl) rfl rfl
                have hy_ := hk_.want 12 _ 81 true rfl rfl hg_
                have hx_ := hk_.ext
                clear hk_
                refine flow_want rfl hy_ ?_
                exact gives_pick rfl h84 ⟨Below.refl _ _, h95⟩
              refine allFrom_cons ?_ ?_
              · intro a_ w_ hk_
                have h81 : a_.eval (.tmp 81) = (.bool true) := hk_.got 12 81 _ (by kernel_rfl) rfl rfl
                have h96 : a_.eval (.tmp 96) = (.bool true) := hk_.got 27 96 _ (by kernel_rfl) rfl rfl
                have hx_ := hk_.ext
                clear hk_
                refine flow_plain rfl ?_
                exact gives_pick rfl h81 ⟨Below.refl _ _, h96⟩
              refine allFrom_cons ?_ ?_
              · intro a_ w_ hk_
                have h97 : a_.eval (.tmp 97) = (.bool true) := hk_.got 28 97 _ (by kernel_rfl) rfl rfl
                have hx_ := hk_.ext
                clear hk_
                refine flow_plain rfl ?_
                exact gives_move rfl ⟨Below.refl _ _, h97⟩
              refine allFrom_cons ?_ ?_
              · intro a_ w_ hk_
                have h18 : a_.eval (.tmp 18) = .int .i64 ((r : Int) + 1) := hk_.old 18 (by kernel_rfl)
                have hg_ : a_.eval (.tmp 98) = .bool true := hk_.got 29 98 _ (by kernel_rfl) rfl rfl
                have hy_ := hk_.want 29 _ 98 true rfl rfl hg_
                have hx_ := hk_.ext
                clear hk_
                refine flow_want rfl hy_ ?_
                exact gives_move rfl ⟨Below.refl _ _, h18⟩
              refine allFrom_cons ?_ ?_
              · intro a_ w_ hk_
                have h99 : a_.eval (.tmp 99) = (.int .i64 ((r : Int) + 1)) := hk_.got 30 99 _ (by kernel_rfl) rfl rfl
                have hg_ : a_.eval (.tmp 98) = .bool true := hk_.got 29 98 _ (by kernel_rfl) rfl rfl
                have hy_ := hk_.want 29 _ 98 true rfl rfl hg_
                have hx_ := hk_.ext
                clear hk_
                refine flow_want rfl hy_ ?_
                unfold gives
                have hc_ : ∀ v, a_.eval (.const v) = v := fun _ => rfl
                have hn_ : ∀ f, a_.eval (.func f) = .func (.func f) #[] #[] := fun _ => rfl
                clear hy_ hg_
                generalize a_.eval = ρ_ at *
                go_simp
                exact ⟨Below.refl _ _, rfl⟩
              refine allFrom_cons ?_ ?_
              · intro a_ w_ hk_
                have h100 : a_.eval (.tmp 100) = (.bool false) := hk_.got 31 100 _ (by kernel_rfl) rfl rfl
                have hg_ : a_.eval (.tmp 98) = .bool true := hk_.got 29 98 _ (by kernel_rfl) rfl rfl
                have hy_ := hk_.want 29 _ 98 true rfl rfl hg_
                have hx_ := hk_.ext
                clear hk_
                refine flow_want rfl hy_ ?_
                exact gives_move rfl ⟨Below.refl _ _, h100⟩
              refine allFrom_cons ?_ ?_
              · intro a_ w_ hk_
                have h12 : a_.eval (.tmp 12) = .pointer (some ⟨g7, 0, none⟩) := hk_.old 12 (by kernel_rfl)
                have hg_ : a_.eval (.tmp 101) = .bool false := hk_.got 32 101 _ (by kernel_rfl) rfl rfl
                have hy_ := hk_.want 32 _ 101 false rfl rfl hg_
                have hx_ := hk_.ext
                clear hk_
                refine flow_want rfl hy_ ?_
                unfold gives
                have hc_ : ∀ v, a_.eval (.const v) = v := fun _ => rfl
                have hn_ : ∀ f, a_.eval (.func f) = .func (.func f) #[] #[] := fun _ => rfl
                clear hy_ hg_
                generalize a_.eval = ρ_ at *
                go_simp
                exact ⟨Below.refl _ _, rfl⟩
              refine allFrom_cons ?_ ?_
              · intro a_ w_ hk_
                have h102 : a_.eval (.tmp 102) = (.pointer (some ⟨g7, 1, none⟩)) := hk_.got 33 102 _ (by kernel_rfl) rfl rfl
                have hg_ : a_.eval (.tmp 101) = .bool false := hk_.got 32 101 _ (by kernel_rfl) rfl rfl
                have hy_ := hk_.want 32 _ 101 false rfl rfl hg_
                have hx_ := hk_.ext
                clear hk_
                refine flow_want rfl hy_ ?_
                unfold gives
                have hc_ : ∀ v, a_.eval (.const v) = v := fun _ => rfl
                have hn_ : ∀ f, a_.eval (.func f) = .func (.func f) #[] #[] := fun _ => rfl
                clear hy_ hg_
                have hcell := (hD9.below hx_ hD9.lt).cell 1
                generalize a_.eval = ρ_ at *
                go_simp
                exact ⟨Below.refl _ _, rfl⟩
              refine allFrom_cons ?_ ?_
              · intro a_ w_ hk_
                have h18 : a_.eval (.tmp 18) = .int .i64 ((r : Int) + 1) := hk_.old 18 (by kernel_rfl)
                have hg_ : a_.eval (.tmp 101) = .bool false := hk_.got 32 101 _ (by kernel_rfl) rfl rfl
                have hy_ := hk_.want 32 _ 101 false rfl rfl hg_
                have hx_ := hk_.ext
                clear hk_
                refine flow_want rfl hy_ ?_
                exact gives_move rfl ⟨Below.refl _ _, h18⟩
              refine allFrom_cons ?_ ?_
              · intro a_ w_ hk_
                have h104 : a_.eval (.tmp 104) = (.int .i64 ((r : Int) + 1)) := hk_.got 35 104 _ (by kernel_rfl) rfl rfl
                have hg_ : a_.eval (.tmp 101) = .bool false := hk_.got 32 101 _ (by kernel_rfl) rfl rfl
                have hy_ := hk_.want 32 _ 101 false rfl rfl hg_
                have hx_ := hk_.ext
                clear hk_
                refine flow_want rfl hy_ ?_
                unfold gives
                have hc_ : ∀ v, a_.eval (.const v) = v := fun _ => rfl
                have hn_ : ∀ f, a_.eval (.func f) = .func (.func f) #[] #[] := fun _ => rfl
                clear hy_ hg_
                generalize a_.eval = ρ_ at *
                go_simp
                exact ⟨Below.refl _ _, rfl⟩
              refine allFrom_cons ?_ ?_
              · intro a_ w_ hk_
                have h103 : a_.eval (.tmp 103) = (.slice (some ⟨bH, oH, none⟩) (r + 1) cH) := hk_.got 34 103 _ (by kernel_rfl) rfl rfl
                have h105 : a_.eval (.tmp 105) = (.int .i64 (r : Int)) := hk_.got 36 105 _ (by kernel_rfl) rfl rfl
                have hg_ : a_.eval (.tmp 101) = .bool false := hk_.got 32 101 _ (by kernel_rfl) rfl rfl
                have hy_ := hk_.want 32 _ 101 false rfl rfl hg_
                have hx_ := hk_.ext
                clear hk_
                refine flow_want rfl hy_ ?_
                unfold gives
                have hc_ : ∀ v, a_.eval (.const v) = v := fun _ => rfl
                have hn_ : ∀ f, a_.eval (.func f) = .func (.func f) #[] #[] := fun _ => rfl
                clear hy_ hg_
                have hlt_ : (r : Int) < (r : Int) + 1 := by omega
                generalize a_.eval = ρ_ at *
                go_simp
                exact ⟨Below.refl _ _, rfl⟩
              refine allFrom_cons ?_ ?_
              · intro a_ w_ hk_
                have h106 : a_.eval (.tmp 106) = (.pointer (some ⟨bH, oH + r * 32, none⟩)) := hk_.got 37 106 _ (by kernel_rfl) rfl rfl
                have hg_ : a_.eval (.tmp 101) = .bool false := hk_.got 32 101 _ (by kernel_rfl) rfl rfl
                have hy_ := hk_.want 32 _ 101 false rfl rfl hg_
                have hx_ := hk_.ext
                clear hk_
                refine flow_want rfl hy_ ?_
                exact gives_loadA rfl h106 (aggHc (hashB_ok r)) (hdh2 _ hx_) ⟨Below.refl _ _, rfl⟩
              refine allFrom_cons ?_ ?_
              · intro a_ w_ hk_
                have h7 : a_.eval (.tmp 7) = .int .i64 ((r : Int) + 1) := hk_.old 7 (by kernel_rfl)
                have hg_ : a_.eval (.tmp 101) = .bool false := hk_.got 32 101 _ (by kernel_rfl) rfl rfl
                have hy_ := hk_.want 32 _ 101 false rfl rfl hg_
                have hx_ := hk_.ext
                clear hk_
                refine flow_want rfl hy_ ?_
                exact gives_move rfl ⟨Below.refl _ _, h7⟩
              refine allFrom_cons ?_ ?_
              · intro a_ w_ hk_
                have h108 : a_.eval (.tmp 108) = (.int .i64 ((r : Int) + 1)) := hk_.got 39 108 _ (by kernel_rfl) rfl rfl
                have hg_ : a_.eval (.tmp 101) = .bool false := hk_.got 32 101 _ (by kernel_rfl) rfl rfl
                have hy_ := hk_.want 32 _ 101 false rfl rfl hg_
                have hx_ := hk_.ext
                clear hk_
                refine flow_want rfl hy_ ?_
                unfold gives
                have hc_ : ∀ v, a_.eval (.const v) = v := fun _ => rfl
                have hn_ : ∀ f, a_.eval (.func f) = .func (.func f) #[] #[] := fun _ => rfl
                clear hy_ hg_
                generalize a_.eval = ρ_ at *
                go_simp
                exact ⟨Below.refl _ _, rfl⟩
              refine allFrom_cons ?_ ?_
              · intro a_ w_ hk_
                have h109 : a_.eval (.tmp 109) = (.int .i64 (r : Int)) := hk_.got 40 109 _ (by kernel_rfl) rfl rfl
                have hg_ : a_.eval (.tmp 101) = .bool false := hk_.got 32 101 _ (by kernel_rfl) rfl rfl
                have hy_ := hk_.want 32 _ 101 false rfl rfl hg_
                have hx_ := hk_.ext
                clear hk_
                refine flow_want rfl hy_ ?_
                unfold gives
                have hc_ : ∀ v, a_.eval (.const v) = v := fun _ => rfl
                have hn_ : ∀ f, a_.eval (.func f) = .func (.func f) #[] #[] := fun _ => rfl
                clear hy_ hg_
                generalize a_.eval = ρ_ at *
                go_simp
                exact ⟨Below.refl _ _, rfl⟩
              refine allFrom_cons ?_ ?_
              · intro a_ w_ hk_
                have h110 : a_.eval (.tmp 110) = (.int .u8 (r : Int)) := hk_.got 41 110 _ (by kernel_rfl) rfl rfl
                have hg_ : a_.eval (.tmp 101) = .bool false := hk_.got 32 101 _ (by kernel_rfl) rfl rfl
                have hy_ := hk_.want 32 _ 101 false rfl rfl hg_
                have hx_ := hk_.ext
                clear hk_
                refine flow_want rfl hy_ ?_
                exact gives_buildHN hr256 rfl h110 ⟨Below.refl _ _, rfl⟩
              refine allFrom_cons ?_ ?_
              · intro a_ w_ hk_
                have h107 : a_.eval (.tmp 107) = (.agg (hc (hashB r)).toArray) := hk_.got 38 107 _ (by kernel_rfl) rfl rfl
                have h111 : a_.eval (.tmp 111) = (.agg (hc (hashB r)).toArray) := hk_.got 42 111 _ (by kernel_rfl) rfl rfl
                have hg_ : a_.eval (.tmp 101) = .bool false := hk_.got 32 101 _ (by kernel_rfl) rfl rfl
                have hy_ := hk_.want 32 _ 101 false rfl rfl hg_
                have hx_ := hk_.ext
                clear hk_
                refine flow_want rfl hy_ ?_
                exact gives_eqA guardH rfl h107 h111 (eqSelfH (hashB_ok r) w_) ⟨Below.refl _ _, rfl⟩
              refine allFrom_cons ?_ ?_
              · intro a_ w_ hk_
                have h101 : a_.eval (.tmp 101) = (.bool false) := hk_.got 32 101 _ (by kernel_rfl) rfl rfl
                have h112 : a_.eval (.tmp 112) = (.bool true) := hk_.got 43 112 _ (by kernel_rfl) rfl rfl
                have hg_ : a_.eval (.tmp 98) = .bool true := hk_.got 29 98 _ (by kernel_rfl) rfl rfl
                have hy_ := hk_.want 29 _ 98 true rfl rfl hg_
                have hx_ := hk_.ext
                clear hk_
                refine flow_want rfl hy_ ?_
                exact gives_pick rfl h101 ⟨Below.refl _ _, h112⟩
              refine allFrom_cons ?_ ?_
              · intro a_ w_ hk_
                have h98 : a_.eval (.tmp 98) = (.bool true) := hk_.got 29 98 _ (by kernel_rfl) rfl rfl
                have h113 : a_.eval (.tmp 113) = (.bool true) := hk_.got 44 113 _ (by kernel_rfl) rfl rfl
                have hx_ := hk_.ext
                clear hk_
                refine flow_plain rfl ?_
                exact gives_pick rfl h98 ⟨Below.refl _ _, h113⟩
              refine allFrom_cons ?_ ?_
              · intro a_ w_ hk_
                have h114 : a_.eval (.tmp 114) = (.bool true) := hk_.got 45 114 _ (by kernel_rfl) rfl rfl
                have hx_ := hk_.ext
                clear hk_
                refine flow_plain rfl ?_
                exact gives_move rfl ⟨Below.refl _ _, h114⟩
              refine allFrom_cons ?_ ?_
              · intro a_ w_ hk_
                have h14 : a_.eval (.tmp 14) = .int .i64 0 := hk_.old 14 (by kernel_rfl)
                have hg_ : a_.eval (.tmp 115) = .bool true := hk_.got 46 115 _ (by kernel_rfl) rfl rfl
                have hy_ := hk_.want 46 _ 115 true rfl rfl hg_
                have hx_ := hk_.ext
                clear hk_
                refine flow_want rfl hy_ ?_
                exact gives_move rfl ⟨Below.refl _ _, h14⟩
              refine allFrom_cons ?_ ?_
              · intro a_ w_ hk_
                have h116 : a_.eval (.tmp 116) = (.int .i64 0) := hk_.got 47 116 _ (by kernel_rfl) rfl rfl
                have hg_ : a_.eval (.tmp 115) = .bool true := hk_.got 46 115 _ (by kernel_rfl) rfl rfl
                have hy_ := hk_.want 46 _ 115 true rfl rfl hg_
                have hx_ := hk_.ext
                clear hk_
                refine flow_want rfl hy_ ?_
                unfold gives
                have hc_ : ∀ v, a_.eval (.const v) = v := fun _ => rfl
                have hn_ : ∀ f, a_.eval (.func f) = .func (.func f) #[] #[] := fun _ => rfl
                clear hy_ hg_
                generalize a_.eval = ρ_ at *
                go_simp
                exact ⟨Below.refl _ _, rfl⟩
              refine allFrom_cons ?_ ?_
              · intro a_ w_ hk_
                have h115 : a_.eval (.tmp 115) = (.bool true) := hk_.got 46 115 _ (by kernel_rfl) rfl rfl
                have h117 : a_.eval (.tmp 117) = (.bool true) := hk_.got 48 117 _ (by kernel_rfl) rfl rfl
                have hx_ := hk_.ext
                clear hk_
                refine flow_plain rfl ?_
                exact gives_pick rfl h115 ⟨Below.refl _ _, h117⟩
              refine allFrom_cons ?_ ?_
              · intro a_ w_ hk_
                have h118 : a_.eval (.tmp 118) = (.bool true) := hk_.got 49 118 _ (by kernel_rfl) rfl rfl
                have hx_ := hk_.ext
                clear hk_
                refine flow_plain rfl ?_
                exact gives_move rfl ⟨Below.refl _ _, h118⟩
              refine allFrom_cons ?_ ?_
              · intro a_ w_ hk_
                have h13 : a_.eval (.tmp 13) = .slice AP pb.length cP := hk_.old 13 (by kernel_rfl)
                have hg_ : a_.eval (.tmp 119) = .bool true := hk_.got 50 119 _ (by kernel_rfl) rfl rfl
                have hy_ := hk_.want 50 _ 119 true rfl rfl hg_
                have hx_ := hk_.ext
                clear hk_
                refine flow_want rfl hy_ ?_
                exact gives_move rfl ⟨Below.refl _ _, h13⟩
              refine allFrom_cons ?_ ?_
              · intro a_ w_ hk_
                have h120 : a_.eval (.tmp 120) = (.slice AP pb.length cP) := hk_.got 51 120 _ (by kernel_rfl) rfl rfl
                have hg_ : a_.eval (.tmp 119) = .bool true := hk_.got 50 119 _ (by kernel_rfl) rfl rfl
                have hy_ := hk_.want 50 _ 119 true rfl rfl hg_
                have hx_ := hk_.ext
                clear hk_
                refine flow_want rfl hy_ ?_
                unfold gives
                have hc_ : ∀ v, a_.eval (.const v) = v := fun _ => rfl
                have hn_ : ∀ f, a_.eval (.func f) = .func (.func f) #[] #[] := fun _ => rfl
                clear hy_ hg_
                generalize a_.eval = ρ_ at *
                go_simp
                exact ⟨Below.refl _ _, rfl⟩
              refine allFrom_cons ?_ ?_
              · intro a_ w_ hk_
                have h17 : a_.eval (.tmp 17) = .int .i64 ((p : Int) + 1) := hk_.old 17 (by kernel_rfl)
                have hg_ : a_.eval (.tmp 119) = .bool true := hk_.got 50 119 _ (by kernel_rfl) rfl rfl
                have hy_ := hk_.want 50 _ 119 true rfl rfl hg_
                have hx_ := hk_.ext
                clear hk_
                refine flow_want rfl hy_ ?_
                exact gives_move rfl ⟨Below.refl _ _, h17⟩
              refine allFrom_cons ?_ ?_
              · intro a_ w_ hk_
                have h122 : a_.eval (.tmp 122) = (.int .i64 ((p : Int) + 1)) := hk_.got 53 122 _ (by kernel_rfl) rfl rfl
                have hg_ : a_.eval (.tmp 119) = .bool true := hk_.got 50 119 _ (by kernel_rfl) rfl rfl
                have hy_ := hk_.want 50 _ 119 true rfl rfl hg_
                have hx_ := hk_.ext
                clear hk_
                refine flow_want rfl hy_ ?_
                unfold gives
                have hc_ : ∀ v, a_.eval (.const v) = v := fun _ => rfl
                have hn_ : ∀ f, a_.eval (.func f) = .func (.func f) #[] #[] := fun _ => rfl
                clear hy_ hg_
                generalize a_.eval = ρ_ at *
                go_simp
                exact ⟨Below.refl _ _, rfl⟩
              refine allFrom_cons ?_ ?_
              · intro a_ w_ hk_
                have h123 : a_.eval (.tmp 123) = (.int .i64 (40 * ((p : Int) + 1))) := hk_.got 54 123 _ (by kernel_rfl) rfl rfl
                have hg_ : a_.eval (.tmp 119) = .bool true := hk_.got 50 119 _ (by kernel_rfl) rfl rfl
                have hy_ := hk_.want 50 _ 119 true rfl rfl hg_
                have hx_ := hk_.ext
                clear hk_
                refine flow_want rfl hy_ ?_
                unfold gives
                have hc_ : ∀ v, a_.eval (.const v) = v := fun _ => rfl
                have hn_ : ∀ f, a_.eval (.func f) = .func (.func f) #[] #[] := fun _ => rfl
                clear hy_ hg_
                generalize a_.eval = ρ_ at *
                go_simp
                exact ⟨Below.refl _ _, rfl⟩
              refine allFrom_cons ?_ ?_
              · intro a_ w_ hk_
                have h18 : a_.eval (.tmp 18) = .int .i64 ((r : Int) + 1) := hk_.old 18 (by kernel_rfl)
                have hg_ : a_.eval (.tmp 119) = .bool true := hk_.got 50 119 _ (by kernel_rfl) rfl rfl
                have hy_ := hk_.want 50 _ 119 true rfl rfl hg_
                have hx_ := hk_.ext
                clear hk_
                refine flow_want rfl hy_ ?_
                exact gives_move rfl ⟨Below.refl _ _, h18⟩
              refine allFrom_cons ?_ ?_
              · intro a_ w_ hk_
                have h125 : a_.eval (.tmp 125) = (.int .i64 ((r : Int) + 1)) := hk_.got 56 125 _ (by kernel_rfl) rfl rfl
                have hg_ : a_.eval (.tmp 119) = .bool true := hk_.got 50 119 _ (by kernel_rfl) rfl rfl
                have hy_ := hk_.want 50 _ 119 true rfl rfl hg_
                have hx_ := hk_.ext
                clear hk_
                refine flow_want rfl hy_ ?_
                unfold gives
                have hc_ : ∀ v, a_.eval (.const v) = v := fun _ => rfl
                have hn_ : ∀ f, a_.eval (.func f) = .func (.func f) #[] #[] := fun _ => rfl
                clear hy_ hg_
                generalize a_.eval = ρ_ at *
                go_simp
                exact ⟨Below.refl _ _, rfl⟩
              refine allFrom_cons ?_ ?_
              · intro a_ w_ hk_
                have h124 : a_.eval (.tmp 124) = (.int .i64 (2 + 40 * ((p : Int) + 1))) := hk_.got 55 124 _ (by kernel_rfl) rfl rfl
                have h126 : a_.eval (.tmp 126) = (.int .i64 (32 * ((r : Int) + 1))) := hk_.got 57 126 _ (by kernel_rfl) rfl rfl
                have hg_ : a_.eval (.tmp 119) = .bool true := hk_.got 50 119 _ (by kernel_rfl) rfl rfl
                have hy_ := hk_.want 50 _ 119 true rfl rfl hg_
                have hx_ := hk_.ext
                clear hk_
                refine flow_want rfl hy_ ?_
                unfold gives
                have hc_ : ∀ v, a_.eval (.const v) = v := fun _ => rfl
                have hn_ : ∀ f, a_.eval (.func f) = .func (.func f) #[] #[] := fun _ => rfl
                clear hy_ hg_
                generalize a_.eval = ρ_ at *
                go_simp
                exact ⟨Below.refl _ _, rfl⟩
              refine allFrom_cons ?_ ?_
              · intro a_ w_ hk_
                have h121 : a_.eval (.tmp 121) = (.int .i64 (pb.length : Int)) := hk_.got 52 121 _ (by kernel_rfl) rfl rfl
                have h127 : a_.eval (.tmp 127) = (.int .i64 (2 + 40 * ((p : Int) + 1) + 32 * ((r : Int) + 1))) := hk_.got 58 127 _ (by kernel_rfl) rfl rfl
                have hg_ : a_.eval (.tmp 119) = .bool true := hk_.got 50 119 _ (by kernel_rfl) rfl rfl
                have hy_ := hk_.want 50 _ 119 true rfl rfl hg_
                have hx_ := hk_.ext
                clear hk_
                refine flow_want rfl hy_ ?_
                unfold gives
                have hc_ : ∀ v, a_.eval (.const v) = v := fun _ => rfl
                have hn_ : ∀ f, a_.eval (.func f) = .func (.func f) #[] #[] := fun _ => rfl
                clear hy_ hg_
                generalize a_.eval = ρ_ at *
                go_simp
                exact ⟨Below.refl _ _, rfl⟩
              refine allFrom_cons ?_ ?_
              · intro a_ w_ hk_
                have h119 : a_.eval (.tmp 119) = (.bool true) := hk_.got 50 119 _ (by kernel_rfl) rfl rfl
                have h128 : a_.eval (.tmp 128) = (.bool true) := hk_.got 59 128 _ (by kernel_rfl) rfl rfl
                have hx_ := hk_.ext
                clear hk_
                refine flow_plain rfl ?_
                exact gives_pick rfl h119 ⟨Below.refl _ _, h128⟩
              refine allFrom_cons ?_ ?_
              · intro a_ w_ hk_
                have h129 : a_.eval (.tmp 129) = (.bool true) := hk_.got 60 129 _ (by kernel_rfl) rfl rfl
                have hx_ := hk_.ext
                clear hk_
                refine flow_plain rfl ?_
                exact gives_move rfl ⟨Below.refl _ _, h129⟩
              refine allFrom_cons ?_ ?_
              · intro a_ w_ hk_
                have h16 : a_.eval (.tmp 16) = .int .i64 0 := hk_.old 16 (by kernel_rfl)
                have hg_ : a_.eval (.tmp 130) = .bool true := hk_.got 61 130 _ (by kernel_rfl) rfl rfl
                have hy_ := hk_.want 61 _ 130 true rfl rfl hg_
                have hx_ := hk_.ext
                clear hk_
                refine flow_want rfl hy_ ?_
                exact gives_move rfl ⟨Below.refl _ _, h16⟩
              refine allFrom_cons ?_ ?_
              · intro a_ w_ hk_
                have h131 : a_.eval (.tmp 131) = (.int .i64 0) := hk_.got 62 131 _ (by kernel_rfl) rfl rfl
                have hg_ : a_.eval (.tmp 130) = .bool true := hk_.got 61 130 _ (by kernel_rfl) rfl rfl
                have hy_ := hk_.want 61 _ 130 true rfl rfl hg_
                have hx_ := hk_.ext
                clear hk_
                refine flow_want rfl hy_ ?_
                unfold gives
                have hc_ : ∀ v, a_.eval (.const v) = v := fun _ => rfl
                have hn_ : ∀ f, a_.eval (.func f) = .func (.func f) #[] #[] := fun _ => rfl
                clear hy_ hg_
                generalize a_.eval = ρ_ at *
                go_simp
                exact ⟨Below.refl _ _, rfl⟩
              refine allFrom_cons ?_ ?_
              · intro a_ w_ hk_
                have h6 : a_.eval (.tmp 6) = .int .i64 ((p : Int) + 1) := hk_.old 6 (by kernel_rfl)
                have hg_ : a_.eval (.tmp 130) = .bool true := hk_.got 61 130 _ (by kernel_rfl) rfl rfl
                have hy_ := hk_.want 61 _ 130 true rfl rfl hg_
                have hx_ := hk_.ext
                clear hk_
                refine flow_want rfl hy_ ?_
                exact gives_move rfl ⟨Below.refl _ _, h6⟩
              refine allFrom_cons ?_ ?_
              · intro a_ w_ hk_
                have h133 : a_.eval (.tmp 133) = (.int .i64 ((p : Int) + 1)) := hk_.got 64 133 _ (by kernel_rfl) rfl rfl
                have hg_ : a_.eval (.tmp 130) = .bool true := hk_.got 61 130 _ (by kernel_rfl) rfl rfl
                have hy_ := hk_.want 61 _ 130 true rfl rfl hg_
                have hx_ := hk_.ext
                clear hk_
                refine flow_want rfl hy_ ?_
                unfold gives
                have hc_ : ∀ v, a_.eval (.const v) = v := fun _ => rfl
                have hn_ : ∀ f, a_.eval (.func f) = .func (.func f) #[] #[] := fun _ => rfl
                clear hy_ hg_
                generalize a_.eval = ρ_ at *
                go_simp
                exact ⟨Below.refl _ _, rfl⟩
              refine allFrom_cons ?_ ?_
              · intro a_ w_ hk_
                have h134 : a_.eval (.tmp 134) = (.bool true) := hk_.got 65 134 _ (by kernel_rfl) rfl rfl
                have hg_ : a_.eval (.tmp 130) = .bool true := hk_.got 61 130 _ (by kernel_rfl) rfl rfl
                have hy_ := hk_.want 61 _ 130 true rfl rfl hg_
                have hx_ := hk_.ext
                clear hk_
                refine flow_want rfl hy_ ?_
                exact gives_move rfl ⟨Below.refl _ _, h134⟩
              refine allFrom_cons ?_ ?_
              · intro a_ w_ hk_
                have h7 : a_.eval (.tmp 7) = .int .i64 ((r : Int) + 1) := hk_.old 7 (by kernel_rfl)
                have hg_ : a_.eval (.tmp 135) = .bool true := hk_.got 66 135 _ (by kernel_rfl) rfl rfl
                have hy_ := hk_.want 66 _ 135 true rfl rfl hg_
                have hx_ := hk_.ext
                clear hk_
                refine flow_want rfl hy_ ?_
                exact gives_move rfl ⟨Below.refl _ _, h7⟩
              refine allFrom_cons ?_ ?_
              · intro a_ w_ hk_
                have h136 : a_.eval (.tmp 136) = (.int .i64 ((r : Int) + 1)) := hk_.got 67 136 _ (by kernel_rfl) rfl rfl
                have hg_ : a_.eval (.tmp 135) = .bool true := hk_.got 66 135 _ (by kernel_rfl) rfl rfl
                have hy_ := hk_.want 66 _ 135 true rfl rfl hg_
                have hx_ := hk_.ext
                clear hk_
                refine flow_want rfl hy_ ?_
                unfold gives
                have hc_ : ∀ v, a_.eval (.const v) = v := fun _ => rfl
                have hn_ : ∀ f, a_.eval (.func f) = .func (.func f) #[] #[] := fun _ => rfl
                clear hy_ hg_
                generalize a_.eval = ρ_ at *
                go_simp
                exact ⟨Below.refl _ _, rfl⟩
              refine allFrom_cons ?_ ?_
              · intro a_ w_ hk_
                have h135 : a_.eval (.tmp 135) = (.bool true) := hk_.got 66 135 _ (by kernel_rfl) rfl rfl
                have h137 : a_.eval (.tmp 137) = (.bool true) := hk_.got 68 137 _ (by kernel_rfl) rfl rfl
                have hg_ : a_.eval (.tmp 130) = .bool true := hk_.got 61 130 _ (by kernel_rfl) rfl rfl
                have hy_ := hk_.want 61 _ 130 true rfl rfl hg_
                have hx_ := hk_.ext
                clear hk_
                refine flow_want rfl hy_ ?_
                exact gives_pick rfl h135 ⟨Below.refl _ _, h137⟩
              refine allFrom_cons ?_ ?_
              · intro a_ w_ hk_
                have h132 : a_.eval (.tmp 132) = (.bool true) := hk_.got 63 132 _ (by kernel_rfl) rfl rfl
                have h138 : a_.eval (.tmp 138) = (.bool true) := hk_.got 69 138 _ (by kernel_rfl) rfl rfl
                have hg_ : a_.eval (.tmp 130) = .bool true := hk_.got 61 130 _ (by kernel_rfl) rfl rfl
                have hy_ := hk_.want 61 _ 130 true rfl rfl hg_
                have hx_ := hk_.ext
                clear hk_
                refine flow_want rfl hy_ ?_
                unfold gives
                have hc_ : ∀ v, a_.eval (.const v) = v := fun _ => rfl
                have hn_ : ∀ f, a_.eval (.func f) = .func (.func f) #[] #[] := fun _ => rfl
                clear hy_ hg_
                generalize a_.eval = ρ_ at *
                go_simp
                exact ⟨Below.refl _ _, rfl⟩
              refine allFrom_cons ?_ ?_
              · intro a_ w_ hk_
                have h130 : a_.eval (.tmp 130) = (.bool true) := hk_.got 61 130 _ (by kernel_rfl) rfl rfl
                have h139 : a_.eval (.tmp 139) = (.bool true) := hk_.got 70 139 _ (by kernel_rfl) rfl rfl
                have hx_ := hk_.ext
                clear hk_
                refine flow_plain rfl ?_
                exact gives_pick rfl h130 ⟨Below.refl _ _, h139⟩
              refine allFrom_cons ?_ ?_
              · intro a_ w_ hk_
                have h140 : a_.eval (.tmp 140) = (.bool true) := hk_.got 71 140 _ (by kernel_rfl) rfl rfl
                have hx_ := hk_.ext
                clear hk_
                refine flow_plain rfl ?_
                exact gives_assign rfl ⟨Below.refl _ _, h140⟩
              exact allFrom_nil
            intro f_ w_ hx_ hf_
            have h69 : f_ 69 = (.pointer (some ⟨g7, 0, none⟩)) := hf_ 0 69 _ (by decide) rfl rfl
            have h70 : f_ 70 = (.slice (some ⟨bK, oK, none⟩) (p + 1) cK) := hf_ 1 70 _ (by decide) rfl rfl
            have h71 : f_ 71 = (.int .i64 ((p : Int) + 1)) := hf_ 2 71 _ (by decide) rfl rfl
            have h72 : f_ 72 = (.int .i64 ((p : Int) + 1)) := hf_ 3 72 _ (by decide) rfl rfl
            have h73 : f_ 73 = (.bool true) := hf_ 4 73 _ (by decide) rfl rfl
            have h74 : f_ 74 = (.bool true) := hf_ 5 74 _ (by decide) rfl rfl
            have h75 : f_ 75 = (.pointer (some ⟨g7, 1, none⟩)) := hf_ 6 75 _ (by decide) rfl rfl
            have h76 : f_ 76 = (.slice (some ⟨bH, oH, none⟩) (r + 1) cH) := hf_ 7 76 _ (by decide) rfl rfl
            have h77 : f_ 77 = (.int .i64 ((r : Int) + 1)) := hf_ 8 77 _ (by decide) rfl rfl
            have h78 : f_ 78 = (.int .i64 ((r : Int) + 1)) := hf_ 9 78 _ (by decide) rfl rfl
            have h79 : f_ 79 = (.bool true) := hf_ 10 79 _ (by decide) rfl rfl
            have h80 : f_ 80 = (.bool true) := hf_ 11 80 _ (by decide) rfl rfl
            have h81 : f_ 81 = (.bool true) := hf_ 12 81 _ (by decide) rfl rfl
            have h82 : f_ 82 = (.int .i64 ((p : Int) + 1)) := hf_ 13 82 _ (by decide) rfl rfl
            have h83 : f_ 83 = (.bool false) := hf_ 14 83 _ (by decide) rfl rfl
            have h84 : f_ 84 = (.bool false) := hf_ 15 84 _ (by decide) rfl rfl
            have h85 : f_ 85 = (.pointer (some ⟨g7, 0, none⟩)) := hf_ 16 85 _ (by decide) rfl rfl
            have h86 : f_ 86 = (.slice (some ⟨bK, oK, none⟩) (p + 1) cK) := hf_ 17 86 _ (by decide) rfl rfl
            have h87 : f_ 87 = (.int .i64 ((p : Int) + 1)) := hf_ 18 87 _ (by decide) rfl rfl
            have h88 : f_ 88 = (.int .i64 (p : Int)) := hf_ 19 88 _ (by decide) rfl rfl
            have h89 : f_ 89 = (.pointer (some ⟨bK, oK + p * 33, none⟩)) := hf_ 20 89 _ (by decide) rfl rfl
            have h90 : f_ 90 = (.pointer (some ⟨bK, oK + p * 33, none⟩)) := hf_ 21 90 _ (by decide) rfl rfl
            have h91 : f_ 91 = (.int .u64 (p : Int)) := hf_ 22 91 _ (by decide) rfl rfl
            have h92 : f_ 92 = (.int .i64 ((p : Int) + 1)) := hf_ 23 92 _ (by decide) rfl rfl
            have h93 : f_ 93 = (.int .i64 (p : Int)) := hf_ 24 93 _ (by decide) rfl rfl
            have h94 : f_ 94 = (.int .u64 (p : Int)) := hf_ 25 94 _ (by decide) rfl rfl
            have h95 : f_ 95 = (.bool true) := hf_ 26 95 _ (by decide) rfl rfl
            have h96 : f_ 96 = (.bool true) := hf_ 27 96 _ (by decide) rfl rfl
            have h97 : f_ 97 = (.bool true) := hf_ 28 97 _ (by decide) rfl rfl
            have h98 : f_ 98 = (.bool true) := hf_ 29 98 _ (by decide) rfl rfl
            have h99 : f_ 99 = (.int .i64 ((r : Int) + 1)) := hf_ 30 99 _ (by decide) rfl rfl
            have h100 : f_ 100 = (.bool false) := hf_ 31 100 _ (by decide) rfl rfl
            have h101 : f_ 101 = (.bool false) := hf_ 32 101 _ (by decide) rfl rfl
            have h102 : f_ 102 = (.pointer (some ⟨g7, 1, none⟩)) := hf_ 33 102 _ (by decide) rfl rfl
            have h103 : f_ 103 = (.slice (some ⟨bH, oH, none⟩) (r + 1) cH) := hf_ 34 103 _ (by decide) rfl rfl
            have h104 : f_ 104 = (.int .i64 ((r : Int) + 1)) := hf_ 35 104 _ (by decide) rfl rfl
            have h105 : f_ 105 = (.int .i64 (r : Int)) := hf_ 36 105 _ (by decide) rfl rfl
            have h106 : f_ 106 = (.pointer (some ⟨bH, oH + r * 32, none⟩)) := hf_ 37 106 _ (by decide) rfl rfl
            have h107 : f_ 107 = (.agg (hc (hashB r)).toArray) := hf_ 38 107 _ (by decide) rfl rfl
            have h108 : f_ 108 = (.int .i64 ((r : Int) + 1)) := hf_ 39 108 _ (by decide) rfl rfl
            have h109 : f_ 109 = (.int .i64 (r : Int)) := hf_ 40 109 _ (by decide) rfl rfl
            have h110 : f_ 110 = (.int .u8 (r : Int)) := hf_ 41 110 _ (by decide) rfl rfl
            have h111 : f_ 111 = (.agg (hc (hashB r)).toArray) := hf_ 42 111 _ (by decide) rfl rfl
            have h112 : f_ 112 = (.bool true) := hf_ 43 112 _ (by decide) rfl rfl
            have h113 : f_ 113 = (.bool true) := hf_ 44 113 _ (by decide) rfl rfl
            have h114 : f_ 114 = (.bool true) := hf_ 45 114 _ (by decide) rfl rfl
            have h115 : f_ 115 = (.bool true) := hf_ 46 115 _ (by decide) rfl rfl
            have h116 : f_ 116 = (.int .i64 0) := hf_ 47 116 _ (by decide) rfl rfl
            have h117 : f_ 117 = (.bool true) := hf_ 48 117 _ (by decide) rfl rfl
            have h118 : f_ 118 = (.bool true) := hf_ 49 118 _ (by decide) rfl rfl
            have h119 : f_ 119 = (.bool true) := hf_ 50 119 _ (by decide) rfl rfl
            have h120 : f_ 120 = (.slice AP pb.length cP) := hf_ 51 120 _ (by decide) rfl rfl
            have h121 : f_ 121 = (.int .i64 (pb.length : Int)) := hf_ 52 121 _ (by decide) rfl rfl
            have h122 : f_ 122 = (.int .i64 ((p : Int) + 1)) := hf_ 53 122 _ (by decide) rfl rfl
            have h123 : f_ 123 = (.int .i64 (40 * ((p : Int) + 1))) := hf_ 54 123 _ (by decide) rfl rfl
            have h124 : f_ 124 = (.int .i64 (2 + 40 * ((p : Int) + 1))) := hf_ 55 124 _ (by decide) rfl rfl
            have h125 : f_ 125 = (.int .i64 ((r : Int) + 1)) := hf_ 56 125 _ (by decide) rfl rfl
            have h126 : f_ 126 = (.int .i64 (32 * ((r : Int) + 1))) := hf_ 57 126 _ (by decide) rfl rfl
            have h127 : f_ 127 = (.int .i64 (2 + 40 * ((p : Int) + 1) + 32 * ((r : Int) + 1))) := hf_ 58 127 _ (by decide) rfl rfl
            have h128 : f_ 128 = (.bool true) := hf_ 59 128 _ (by decide) rfl rfl
            have h129 : f_ 129 = (.bool true) := hf_ 60 129 _ (by decide) rfl rfl
            have h130 : f_ 130 = (.bool true) := hf_ 61 130 _ (by decide) rfl rfl
            have h131 : f_ 131 = (.int .i64 0) := hf_ 62 131 _ (by decide) rfl rfl
            have h132 : f_ 132 = (.bool true) := hf_ 63 132 _ (by decide) rfl rfl
            have h133 : f_ 133 = (.int .i64 ((p : Int) + 1)) := hf_ 64 133 _ (by decide) rfl rfl
            have h134 : f_ 134 = (.bool true) := hf_ 65 134 _ (by decide) rfl rfl
            have h135 : f_ 135 = (.bool true) := hf_ 66 135 _ (by decide) rfl rfl
            have h136 : f_ 136 = (.int .i64 ((r : Int) + 1)) := hf_ 67 136 _ (by decide) rfl rfl
            have h137 : f_ 137 = (.bool true) := hf_ 68 137 _ (by decide) rfl rfl
            have h138 : f_ 138 = (.bool true) := hf_ 69 138 _ (by decide) rfl rfl
            have h139 : f_ 139 = (.bool true) := hf_ 70 139 _ (by decide) rfl rfl
            have h140 : f_ 140 = (.bool true) := hf_ 71 140 _ (by decide) rfl rfl
            have h4 : f_ 4 = (.bool true) := hf_ 72 4 _ (by decide) rfl rfl
            simp only [mix, h69, h70, h71, h72, h73, h74, h75, h76, h77, h78, h79, h80, h81, h82, h83, h84, h85, h86, h87, h88, h89, h90, h91, h92, h93, h94, h95, h96, h97, h98, h99, h100, h101, h102, h103, h104, h105, h106, h107, h108, h109, h110, h111, h112, h113, h114, h115, h116, h117, h118, h119, h120, h121, h122, h123, h124, h125, h126, h127, h128, h129, h130, h131, h132, h133, h134, h135, h136, h137, h138, h139, h140, h4]
            clear h69 h70 h71 h72 h73 h74 h75 h76 h77 h78 h79 h80 h81 h82 h83 h84 h85 h86 h87 h88 h89 h90 h91 h92 h93 h94 h95 h96 h97 h98 h99 h100 h101 h102 h103 h104 h105 h106 h107 h108 h109 h110 h111 h112 h113 h114 h115 h116 h117 h118 h119 h120 h121 h122 h123 h124 h125 h126 h127 h128 h129 h130 h131 h132 h133 h134 h135 h136 h137 h138 h139 h140 h4
            clear hf_
            go_wp2
            go_ret
            exact ⟨rfl, bx_trans hb010 hx_⟩
          · go_wp2_with fail
            refine (Put_big w9 (by rw [HLN.out, HLM.out]; omega)).mono ?_
            rintro e w10 ⟨rfl, hb10⟩
            have hxl : (last32 kl).length = (p + 1) := by have := HL1.out; omega
            obtain ⟨hlt1, hit1⟩ := HK1.out (by omega)
            obtain ⟨bK, oK, hE, hbK, hdK⟩ := rd_item (i := (last32 kl).length - 1) (own_rd hK9) (mapLenK ho1) (by decide) (by rw [List.length_map]; exact hlt1)
            rw [List.getElem_map, hit1] at hdK
            subst hE
            have hdk0 := hdK 0 _ rfl
            rw [hxl] at hdk0
            have hdk1 : w9.cell? ⟨bK, oK + p * 33, none⟩ = some (.int .u64 (p : Int)) := by simpa using hdk0
            have hbK10 := Nat.lt_of_lt_of_le hbK hb10.size
            have hdk2 := fun (w_ : World) (hx_ : Below w10.heap.size w10 w_) => (hx_.cell (p := ⟨bK, oK + p * 33, none⟩) hbK10).trans ((hb10.cell (p := ⟨bK, oK + p * 33, none⟩) hbK).trans hdk1)
            clear hdk0 hdk1 hdK hlt1 hit1
            have hyl : (last32 hl).length = 32 := by have := HL2.out; omega
            obtain ⟨hlt2, hit2⟩ := HK2.out (by omega)
            obtain ⟨bH, oH, hE, hbH, hdH⟩ := rd_item (i := (last32 hl).length - 1) (own_rd hH9) (mapLenH ho2) (by decide) (by rw [List.length_map]; exact hlt2)
            rw [List.getElem_map, hit2, hyl] at hdH
            subst hE
            have hdh0 : ∀ j v, (hc (hashB r))[j]? = some v → w9.cell? ⟨bH, oH + 992 + j, none⟩ = some v := fun j v hv => by (have := hdH j v (by simpa using hv); simpa using this)
            have hbH10 := Nat.lt_of_lt_of_le hbH hb10.size
            have hdh2 := fun (w_ : World) (hx_ : Below w10.heap.size w10 w_) j v hv => (hx_.cell (p := ⟨bH, oH + 992 + j, none⟩) hbH10).trans ((hb10.cell (p := ⟨bH, oH + 992 + j, none⟩) hbH).trans (hdh0 j v hv))
            clear hdh0 hdH hlt2 hit2
            have hb010 := bx_trans hb09 hb10
            have hD9 := hD9.below hb10 hD9.lt
            rw [hxl, hyl] at HPL hD9
            clear hxl hyl hK9 hH9 hKc hHc hb09 hb10 HLN HLM HL1 HL2 HK1 HK2
            have fa1 : ¬ ((p : Int) + 1 = 0) := by omega
            have fa4 : IntKind.i64.wrap (p : Int) = (p : Int) := wr_i64 _ (by omega) (by omega)
            have fa5 : IntKind.u64.wrap (p : Int) = (p : Int) := by simp [IntKind.wrap, IntKind.bits, IntKind.signed]; omega
            have fa6 : (p : Int) + 1 ≤ 32 := by omega
            have fk1 : ¬ ((r : Int) + 1 = 0) := by omega
            have fk4 : IntKind.i64.wrap (r : Int) = (r : Int) := wr_i64 _ (by omega) (by omega)
            have fk5 : IntKind.u8.wrap (r : Int) = (r : Int) := by simp [IntKind.wrap, IntKind.bits, IntKind.signed]; omega
            have hr256 : r < 256 := by omega
            have fk6 : ¬ ((r : Int) + 1 ≤ 32) := by omega
            have fw1 : IntKind.i64.wrap (40 * ((p : Int) + 1)) = 40 * ((p : Int) + 1) := wr_i64 _ (by omega) (by omega)
            have fw2 : IntKind.i64.wrap (2 + 40 * ((p : Int) + 1)) = 2 + 40 * ((p : Int) + 1) := wr_i64 _ (by omega) (by omega)
            have fw4 : IntKind.i64.wrap (2 + 40 * ((p : Int) + 1) + 1024) = 2 + 40 * ((p : Int) + 1) + 1024 := wr_i64 _ (by omega) (by omega)
            have fw5 : (pb.length : Int) = 2 + 40 * ((p : Int) + 1) + 1024 := by have := HPL.out; omega
            simp only []
            repeat ((fail_if_success (with_reducible refine wpHalt 21 ?_)); first | go_skip | go_guarded | go_step)
            refine wp_region_lit ?_
            refine wp_flowSE [0, 1, 3, 7, 15, 31, 63, 127, 255, 511, 1023, 2047, 4095, 8191, 16383, 32767, 65535, 131071, 262143, 524287, 1048575, 2097151, 4194303, 8388607, 16777215, 33554431, 67108863, 134217727, 268435455, 536870911, 1073741823, 2147483647, 4294967295, 8589934591, 17179869183, 34359738367, 68719476735, 137438953471, 274877906943, 549755813887, 1099511627775, 2199023255551, 4398046511103, 8796093022207, 17592186044415, 35184372088831, 70368744177663, 140737488355327, 281474976710655, 562949953421311, 1125899906842623, 2251799813685247, 4503599627370495, 9007199254740991, 18014398509481983, 36028797018963967, 72057594037927935, 144115188075855871, 288230376151711743, 576460752303423487, 1152921504606846975, 2305843009213693951, 4611686018427387903, 9223372036854775807, 18446744073709551615, 36893488147419103231, 73786976294838206463, 147573952589676412927, 295147905179352825855, 590295810358705651711, 1180591620717411303423, 2361183241434822606847, 4722366482869645213695] 73 [false, false, false, false, true, false, false, false, false, false, false, false, false, false, false, false, false, false, false, false, false, false, false, false, false, false, false, false, false, false, false, false, false, false, false, false, false, false, false, false, false, false, false, false, false, false, false, false, false, false, false, false, false, false, false, false, false, false, false, false, false, false, false, false, false, false, false, false, false, true, true, true, true, true, true, true, true, true, true, true, true, true, true, true, true, true, true, true, true, true, true, true, true, true, true, true, true, true, true, true, true, true, true, true, true, true, true, true, true, true, true, true, true, true, true, true, true, true, true, true, true, true, true, true, true, true, true, true, true, true, true, true, true, true, true, true, true, true, true, true, true] (by kernel_rfl) (by kernel_rfl) (by kernel_rfl) [FP.eq (.pointer (some ⟨g7, 0, none⟩)), FP.eq (.slice (some ⟨bK, oK, none⟩) (p + 1) cK), FP.eq (.int .i64 ((p : Int) + 1)), FP.eq (.int .i64 ((p : Int) + 1)), FP.eq (.bool true), FP.eq (.bool true), FP.eq (.pointer (some ⟨g7, 1, none⟩)), FP.eq (.slice (some ⟨bH, oH, none⟩) 32 cH), FP.eq (.int .i64 32), FP.eq (.int .i64 32), FP.eq (.bool true), FP.eq (.bool true), FP.eq (.bool true), FP.eq (.int .i64 ((p : Int) + 1)), FP.eq (.bool false), FP.eq (.bool false), FP.eq (.pointer (some ⟨g7, 0, none⟩)), FP.eq (.slice (some ⟨bK, oK, none⟩) (p + 1) cK), FP.eq (.int .i64 ((p : Int) + 1)), FP.eq (.int .i64 (p : Int)), FP.eq (.pointer (some ⟨bK, oK + p * 33, none⟩)), FP.eq (.pointer (some ⟨bK, oK + p * 33, none⟩)), FP.eq (.int .u64 (p : Int)), FP.eq (.int .i64 ((p : Int) + 1)), FP.eq (.int .i64 (p : Int)), FP.eq (.int .u64 (p : Int)), FP.eq (.bool true), FP.eq (.bool true), FP.eq (.bool true), FP.eq (.bool true), FP.eq (.int .i64 32), FP.eq (.bool false), FP.eq (.bool false), FP.eq (.pointer (some ⟨g7, 1, none⟩)), FP.eq (.slice (some ⟨bH, oH, none⟩) 32 cH), FP.eq (.int .i64 32), FP.eq (.int .i64 31), FP.eq (.pointer (some ⟨bH, oH + 992, none⟩)), FP.eq (.agg (hc (hashB r)).toArray), FP.eq (.int .i64 ((r : Int) + 1)), FP.eq (.int .i64 (r : Int)), FP.eq (.int .u8 (r : Int)), FP.eq (.agg (hc (hashB r)).toArray), FP.eq (.bool true), FP.eq (.bool true), FP.eq (.bool true), FP.eq (.bool true), FP.eq (.int .i64 0), FP.eq (.bool true), FP.eq (.bool true), FP.eq (.bool true), FP.eq (.slice AP pb.length cP), FP.eq (.int .i64 (pb.length : Int)), FP.eq (.int .i64 ((p : Int) + 1)), FP.eq (.int .i64 (40 * ((p : Int) + 1))), FP.eq (.int .i64 (2 + 40 * ((p : Int) + 1))), FP.eq (.int .i64 32), FP.eq (.int .i64 (1024)), FP.eq (.int .i64 (2 + 40 * ((p : Int) + 1) + 1024)), FP.eq (.bool true), FP.eq (.bool true), FP.eq (.bool true), FP.eq (.int .i64 13), FP.eq (.bool false), FP.eq (.int .i64 ((p : Int) + 1)), FP.eq (.bool true), FP.eq (.bool true), FP.eq (.int .i64 ((r : Int) + 1)), FP.eq (.bool false), FP.eq (.bool false), FP.eq (.bool true), FP.eq (.bool true), FP.eq (.bool true)] ?_ ?_
            · refine allFrom_cons ?_ ?_
              · intro a_ w_ hk_
                have h12 : a_.eval (.tmp 12) = .pointer (some ⟨g7, 0, none⟩) := hk_.old 12 (by kernel_rfl)
                have hx_ := hk_.ext
                clear hk_
                refine flow_plain rfl ?_
                unfold gives
                have hc_ : ∀ v, a_.eval (.const v) = v := fun _ => rfl
                have hn_ : ∀ f, a_.eval (.func f) = .func (.func f) #[] #[] := fun _ => rfl
                generalize a_.eval = ρ_ at *
                go_simp
                exact ⟨Below.refl _ _, rfl⟩
              refine allFrom_cons ?_ ?_
              · intro a_ w_ hk_
                have h69 : a_.eval (.tmp 69) = (.pointer (some ⟨g7, 0, none⟩)) := hk_.got 0 69 _ (by kernel_rfl) rfl rfl
                have hx_ := hk_.ext
                clear hk_
                refine flow_plain rfl ?_
                unfold gives
                have hc_ : ∀ v, a_.eval (.const v) = v := fun _ => rfl
                have hn_ : ∀ f, a_.eval (.func f) = .func (.func f) #[] #[] := fun _ => rfl
                have hcell := (hD9.below hx_ hD9.lt).cell 0
                generalize a_.eval = ρ_ at *
                go_simp
                exact ⟨Below.refl _ _, rfl⟩
              refine allFrom_cons ?_ ?_
              · intro a_ w_ hk_
                have h70 : a_.eval (.tmp 70) = (.slice (some ⟨bK, oK, none⟩) (p + 1) cK) := hk_.got 1 70 _ (by kernel_rfl) rfl rfl
                have hx_ := hk_.ext
                clear hk_
                refine flow_plain rfl ?_
                unfold gives
                have hc_ : ∀ v, a_.eval (.const v) = v := fun _ => rfl
                have hn_ : ∀ f, a_.eval (.func f) = .func (.func f) #[] #[] := fun _ => rfl
                generalize a_.eval = ρ_ at *
                go_simp
                exact ⟨Below.refl _ _, rfl⟩
              refine allFrom_cons ?_ ?_
              · intro a_ w_ hk_
                have h17 : a_.eval (.tmp 17) = .int .i64 ((p : Int) + 1) := hk_.old 17 (by kernel_rfl)
                have hx_ := hk_.ext
                clear hk_
                refine flow_plain rfl ?_
                exact gives_move rfl ⟨Below.refl _ _, h17⟩
              refine allFrom_cons ?_ ?_
              · intro a_ w_ hk_
                have h71 : a_.eval (.tmp 71) = (.int .i64 ((p : Int) + 1)) := hk_.got 2 71 _ (by kernel_rfl) rfl rfl
                have h72 : a_.eval (.tmp 72) = (.int .i64 ((p : Int) + 1)) := hk_.got 3 72 _ (by kernel_rfl) rfl rfl
                have hx_ := hk_.ext
                clear hk_
                refine flow_plain rfl ?_
                unfold gives
                have hc_ : ∀ v, a_.eval (.const v) = v := fun _ => rfl
                have hn_ : ∀ f, a_.eval (.func f) = .func (.func f) #[] #[] := fun _ => rfl
                generalize a_.eval = ρ_ at *
                go_simp
                exact ⟨Below.refl _ _, rfl⟩
              refine allFrom_cons ?_ ?_
              · intro a_ w_ hk_
                have h73 : a_.eval (.tmp 73) = (.bool true) := hk_.got 4 73 _ (by kernel_rfl) rfl rfl
                have hx_ := hk_.ext
                clear hk_
                refine flow_plain rfl ?_
                exact gives_move rfl ⟨Below.refl _ _, h73⟩
              refine allFrom_cons ?_ ?_
              · intro a_ w_ hk_
                have h12 : a_.eval (.tmp 12) = .pointer (some ⟨g7, 0, none⟩) := hk_.old 12 (by kernel_rfl)
                have hg_ : a_.eval (.tmp 74) = .bool true := hk_.got 5 74 _ (by kernel_rfl) rfl rfl
                have hy_ := hk_.want 5 _ 74 true rfl rfl hg_
                have hx_ := hk_.ext
                clear hk_
                refine flow_want rfl hy_ ?_
                unfold gives
                have hc_ : ∀ v, a_.eval (.const v) = v := fun _ => rfl
                have hn_ : ∀ f, a_.eval (.func f) = .func (.func f) #[] #[] := fun _ => rfl
                clear hy_ hg_
                generalize a_.eval = ρ_ at *
                go_simp
                exact ⟨Below.refl _ _, rfl⟩
              refine allFrom_cons ?_ ?_
              · intro a_ w_ hk_
                have h75 : a_.eval (.tmp 75) = (.pointer (some ⟨g7, 1, none⟩)) := hk_.got 6 75 _ (by kernel_rfl) rfl rfl
                have hg_ : a_.eval (.tmp 74) = .bool true := hk_.got 5 74 _ (by kernel_rfl) rfl rfl
                have hy_ := hk_.want 5 _ 74 true rfl rfl hg_
                have hx_ := hk_.ext
                clear hk_
                refine flow_want rfl hy_ ?_
                unfold gives
                have hc_ : ∀ v, a_.eval (.const v) = v := fun _ => rfl
                have hn_ : ∀ f, a_.eval (.func f) = .func (.func f) #[] #[] := fun _ => rfl
                clear hy_ hg_
                have hcell := (hD9.below hx_ hD9.lt).cell 1
                generalize a_.eval = ρ_ at *
                go_simp
                exact ⟨Below.refl _ _, rfl⟩
              refine allFrom_cons ?_ ?_
              · intro a_ w_ hk_
                have h76 : a_.eval (.tmp 76) = (.slice (some ⟨bH, oH, none⟩) 32 cH) := hk_.got 7 76 _ (by kernel_rfl) rfl rfl
                have hg_ : a_.eval (.tmp 74) = .bool true := hk_.got 5 74 _ (by kernel_rfl) rfl rfl
                have hy_ := hk_.want 5 _ 74 true rfl rfl hg_
                have hx_ := hk_.ext
                clear hk_
                refine flow_want rfl hy_ ?_
                unfold gives
                have hc_ : ∀ v, a_.eval (.const v) = v := fun _ => rfl
                have hn_ : ∀ f, a_.eval (.func f) = .func (.func f) #[] #[] := fun _ => rfl
                clear hy_ hg_
                generalize a_.eval = ρ_ at *
                go_simp
                exact ⟨Below.refl _ _, rfl⟩
              refine allFrom_cons ?_ ?_
              · intro a_ w_ hk_
                have h18 : a_.eval (.tmp 18) = .int .i64 32 := hk_.old 18 (by kernel_rfl)
                have hg_ : a_.eval (.tmp 74) = .bool true := hk_.got 5 74 _ (by kernel_rfl) rfl rfl
                have hy_ := hk_.want 5 _ 74 true rfl rfl hg_
                have hx_ := hk_.ext
                clear hk_
                refine flow_want rfl hy_ ?_
                exact gives_move rfl ⟨Below.refl _ _, h18⟩
              refine allFrom_cons ?_ ?_
              · intro a_ w_ hk_
                have h77 : a_.eval (.tmp 77) = (.int .i64 32) := hk_.got 8 77 _ (by kernel_rfl) rfl rfl
                have h78 : a_.eval (.tmp 78) = (.int .i64 32) := hk_.got 9 78 _ (by kernel_rfl) rfl rfl
                have hg_ : a_.eval (.tmp 74) = .bool true := hk_.got 5 74 _ (by kernel_rfl) rfl rfl
                have hy_ := hk_.want 5 _ 74 true rfl rfl hg_
                have hx_ := hk_.ext
                clear hk_
                refine flow_want rfl hy_ ?_
                unfold gives
                have hc_ : ∀ v, a_.eval (.const v) = v := fun _ => rfl
                have hn_ : ∀ f, a_.eval (.func f) = .func (.func f) #[] #[] := fun _ => rfl
                clear hy_ hg_
                generalize a_.eval = ρ_ at *
                go_simp
                exact ⟨Below.refl _ _, rfl⟩
              refine allFrom_cons ?_ ?_
              · intro a_ w_ hk_
                have h74 : a_.eval (.tmp 74) = (.bool true) := hk_.got 5 74 _ (by kernel_rfl) rfl rfl
                have h79 : a_.eval (.tmp 79) = (.bool true) := hk_.got 10 79 _ (by kernel_rfl) rfl rfl
                have hx_ := hk_.ext
                clear hk_
                refine flow_plain rfl ?_
                exact gives_pick rfl h74 ⟨Below.refl _ _, h79⟩
              refine allFrom_cons ?_ ?_
              · intro a_ w_ hk_
                have h80 : a_.eval (.tmp 80) = (.bool true) := hk_.got 11 80 _ (by kernel_rfl) rfl rfl
                have hx_ := hk_.ext
                clear hk_
                refine flow_plain rfl ?_
                exact gives_move rfl ⟨Below.refl _ _, h80⟩
              refine allFrom_cons ?_ ?_
              · intro a_ w_ hk_
                have h17 : a_.eval (.tmp 17) = .int .i64 ((p : Int) + 1) := hk_.old 17 (by kernel_rfl)
                have hg_ : a_.eval (.tmp 81) = .bool true := hk_.got 12 81 _ (by kernel_rfl) rfl rfl
                have hy_ := hk_.want 12 _ 81 true rfl rfl hg_
                have hx_ := hk_.ext
                clear hk_
                refine flow_want rfl hy_ ?_
                exact gives_move rfl ⟨Below.refl _ _, h17⟩
              refine allFrom_cons ?_ ?_
              · intro a_ w_ hk_
                have h82 : a_.eval (.tmp 82) = (.int .i64 ((p : Int) + 1)) := hk_.got 13 82 _ (by kernel_rfl) rfl rfl
                have hg_ : a_.eval (.tmp 81) = .bool true := hk_.got 12 81 _ (by kernel_rfl) rfl rfl
                have hy_ := hk_.want 12 _ 81 true rfl rfl hg_
                have hx_ := hk_.ext
                clear hk_
                refine flow_want rfl hy_ ?_
                unfold gives
                have hc_ : ∀ v, a_.eval (.const v) = v := fun _ => rfl
                have hn_ : ∀ f, a_.eval (.func f) = .func (.func f) #[] #[] := fun _ => rfl
                clear hy_ hg_
                generalize a_.eval = ρ_ at *
                go_simp
                exact ⟨Below.refl _ _, rfl⟩
              refine allFrom_cons ?_ ?_
              · intro a_ w_ hk_
                have h83 : a_.eval (.tmp 83) = (.bool false) := hk_.got 14 83 _ (by kernel_rfl) rfl rfl
                have hg_ : a_.eval (.tmp 81) = .bool true := hk_.got 12 81 _ (by kernel_rfl) rfl rfl
                have hy_ := hk_.want 12 _ 81 true rfl rfl hg_
                have hx_ := hk_.ext
                clear hk_
                refine flow_want rfl hy_ ?_
                exact gives_move rfl ⟨Below.refl _ _, h83⟩
              refine allFrom_cons ?_ ?_
              · intro a_ w_ hk_
                have h12 : a_.eval (.tmp 12) = .pointer (some ⟨g7, 0, none⟩) := hk_.old 12 (by kernel_rfl)
                have hg_ : a_.eval (.tmp 84) = .bool false := hk_.got 15 84 _ (by kernel_rfl) rfl rfl
                have hy_ := hk_.want 15 _ 84 false rfl rfl hg_
                have hx_ := hk_.ext
                clear hk_
                refine flow_want rfl hy_ ?_
                unfold gives
                have hc_ : ∀ v, a_.eval (.const v) = v := fun _ => rfl
                have hn_ : ∀ f, a_.eval (.func f) = .func (.func f) #[] #[] := fun _ => rfl
                clear hy_ hg_
                generalize a_.eval = ρ_ at *
                go_simp
                exact ⟨Below.refl _ _, rfl⟩
              refine allFrom_cons ?_ ?_
              · intro a_ w_ hk_
                have h85 : a_.eval (.tmp 85) = (.pointer (some ⟨g7, 0, none⟩)) := hk_.got 16 85 _ (by kernel_rfl) rfl rfl
                have hg_ : a_.eval (.tmp 84) = .bool false := hk_.got 15 84 _ (by kernel_rfl) rfl rfl
                have hy_ := hk_.want 15 _ 84 false rfl rfl hg_
                have hx_ := hk_.ext
                clear hk_
                refine flow_want rfl hy_ ?_
                unfold gives
                have hc_ : ∀ v, a_.eval (.const v) = v := fun _ => rfl
                have hn_ : ∀ f, a_.eval (.func f) = .func (.func f) #[] #[] := fun _ => rfl
                clear hy_ hg_
                have hcell := (hD9.below hx_ hD9.lt).cell 0
                generalize a_.eval = ρ_ at *
                go_simp
                exact ⟨Below.refl _ _, rfl⟩
              refine allFrom_cons ?_ ?_
              · intro a_ w_ hk_
                have h17 : a_.eval (.tmp 17) = .int .i64 ((p : Int) + 1) := hk_.old 17 (by kernel_rfl)
                have hg_ : a_.eval (.tmp 84) = .bool false := hk_.got 15 84 _ (by kernel_rfl) rfl rfl
                have hy_ := hk_.want 15 _ 84 false rfl rfl hg_
                have hx_ := hk_.ext
                clear hk_
                refine flow_want rfl hy_ ?_
                exact gives_move rfl ⟨Below.refl _ _, h17⟩
              refine allFrom_cons ?_ ?_
              · intro a_ w_ hk_
                have h87 : a_.eval (.tmp 87) = (.int .i64 ((p : Int) + 1)) := hk_.got 18 87 _ (by kernel_rfl) rfl rfl
                have hg_ : a_.eval (.tmp 84) = .bool false := hk_.got 15 84 _ (by kernel_rfl) rfl rfl
                have hy_ := hk_.want 15 _ 84 false rfl rfl hg_
                have hx_ := hk_.ext
                clear hk_
                refine flow_want rfl hy_ ?_
                unfold gives
                have hc_ : ∀ v, a_.eval (.const v) = v := fun _ => rfl
                have hn_ : ∀ f, a_.eval (.func f) = .func (.func f) #[] #[] := fun _ => rfl
                clear hy_ hg_
                generalize a_.eval = ρ_ at *
                go_simp
                exact ⟨Below.refl _ _, rfl⟩
              refine allFrom_cons ?_ ?_
              · intro a_ w_ hk_
                have h86 : a_.eval (.tmp 86) = (.slice (some ⟨bK, oK, none⟩) (p + 1) cK) := hk_.got 17 86 _ (by kernel_rfl) rfl rfl
                have h88 : a_.eval (.tmp 88) = (.int .i64 (p : Int)) := hk_.got 19 88 _ (by kernel_rfl) rfl rfl
                have hg_ : a_.eval (.tmp 84) = .bool false := hk_.got 15 84 _ (by kernel_rfl) rfl rfl
                have hy_ := hk_.want 15 _ 84 false rfl rfl hg_
                have hx_ := hk_.ext
                clear hk_
                refine flow_want rfl hy_ ?_
                unfold gives
                have hc_ : ∀ v, a_.eval (.const v) = v := fun _ => rfl
                have hn_ : ∀ f, a_.eval (.func f) = .func (.func f) #[] #[] := fun _ => rfl
                clear hy_ hg_
                have hlt_ : (p : Int) < (p : Int) + 1 := by omega
                generalize a_.eval = ρ_ at *
                go_simp
                exact ⟨Below.refl _ _, rfl⟩
              refine allFrom_cons ?_ ?_
              · intro a_ w_ hk_
                have h89 : a_.eval (.tmp 89) = (.pointer (some ⟨bK, oK + p * 33, none⟩)) := hk_.got 20 89 _ (by kernel_rfl) rfl rfl
                have hg_ : a_.eval (.tmp 84) = .bool false := hk_.got 15 84 _ (by kernel_rfl) rfl rfl
                have hy_ := hk_.want 15 _ 84 false rfl rfl hg_
                have hx_ := hk_.ext
                clear hk_
                refine flow_want rfl hy_ ?_
                unfold gives
                have hc_ : ∀ v, a_.eval (.const v) = v := fun _ => rfl
                have hn_ : ∀ f, a_.eval (.func f) = .func (.func f) #[] #[] := fun _ => rfl
                clear hy_ hg_
                generalize a_.eval = ρ_ at *
                go_simp
                exact ⟨Below.refl _ _, rfl⟩
              refine allFrom_cons ?_ ?_
              · intro a_ w_ hk_
                have h90 : a_.eval (.tmp 90) = (.pointer (some ⟨bK, oK + p * 33, none⟩)) := hk_.got 21 90 _ (by kernel_rfl) rfl rfl
                have hg_ : a_.eval (.tmp 84) = .bool false := hk_.got 15 84 _ (by kernel_rfl) rfl rfl
                have hy_ := hk_.want 15 _ 84 false rfl rfl hg_
                have hx_ := hk_.ext
                clear hk_
                refine flow_want rfl hy_ ?_
                unfold gives
                have hc_ : ∀ v, a_.eval (.const v) = v := fun _ => rfl
                have hn_ : ∀ f, a_.eval (.func f) = .func (.func f) #[] #[] := fun _ => rfl
                clear hy_ hg_
                have hcell := hdk2 _ hx_
                generalize a_.eval = ρ_ at *
                go_simp
                exact ⟨Below.refl _ _, rfl⟩
              refine allFrom_cons ?_ ?_
              · intro a_ w_ hk_
                have h6 : a_.eval (.tmp 6) = .int .i64 ((p : Int) + 1) := hk_.old 6 (by kernel_rfl)
                have hg_ : a_.eval (.tmp 84) = .bool false := hk_.got 15 84 _ (by kernel_rfl) rfl rfl
                have hy_ := hk_.want 15 _ 84 false rfl rfl hg_
                have hx_ := hk_.ext
                clear hk_
                refine flow_want rfl hy_ ?_
                exact gives_move rfl ⟨Below.refl _ _, h6⟩
              refine allFrom_cons ?_ ?_
              · intro a_ w_ hk_
                have h92 : a_.eval (.tmp 92) = (.int .i64 ((p : Int) + 1)) := hk_.got 23 92 _ (by kernel_rfl) rfl rfl
                have hg_ : a_.eval (.tmp 84) = .bool false := hk_.got 15 84 _ (by kernel_rfl) rfl rfl
                have hy_ := hk_.want 15 _ 84 false rfl rfl hg_
                have hx_ := hk_.ext
                clear hk_
                refine flow_want rfl hy_ ?_
                unfold gives
                have hc_ : ∀ v, a_.eval (.const v) = v := fun _ => rfl
                have hn_ : ∀ f, a_.eval (.func f) = .func (.func f) #[] #[] := fun _ => rfl
                clear hy_ hg_
                generalize a_.eval = ρ_ at *
                go_simp
                exact ⟨Below.refl _ _, rfl⟩
              refine allFrom_cons ?_ ?_
              · intro a_ w_ hk_
                have h93 : a_.eval (.tmp 93) = (.int .i64 (p : Int)) := hk_.got 24 93 _ (by kernel_rfl) rfl rfl
                have hg_ : a_.eval (.tmp 84) = .bool false := hk_.got 15 84 _ (by kernel_rfl) rfl rfl
                have hy_ := hk_.want 15 _ 84 false rfl rfl hg_
                have hx_ := hk_.ext
                clear hk_
                refine flow_want rfl hy_ ?_
                unfold gives
                have hc_ : ∀ v, a_.eval (.const v) = v := fun _ => rfl
                have hn_ : ∀ f, a_.eval (.func f) = .func (.func f) #[] #[] := fun _ => rfl
                clear hy_ hg_
                generalize a_.eval = ρ_ at *
                go_simp
                exact ⟨Below.refl _ _, rfl⟩
              refine allFrom_cons ?_ ?_
              · intro a_ w_ hk_
                have h91 : a_.eval (.tmp 91) = (.int .u64 (p : Int)) := hk_.got 22 91 _ (by kernel_rfl) rfl rfl
                have h94 : a_.eval (.tmp 94) = (.int .u64 (p : Int)) := hk_.got 25 94 _ (by kernel_rfl) rfl rfl
                have hg_ : a_.eval (.tmp 84) = .bool false := hk_.got 15 84 _ (by kernel_rfl) rfl rfl
                have hy_ := hk_.want 15 _ 84 false rfl rfl hg_
                have hx_ := hk_.ext
                clear hk_
                refine flow_want rfl hy_ ?_
                unfold gives
                have hc_ : ∀ v, a_.eval (.const v) = v := fun _ => rfl
                have hn_ : ∀ f, a_.eval (.func f) = .func (.func f) #[] #[] := fun _ => rfl
                clear hy_ hg_
                generalize a_.eval = ρ_ at *
                go_simp
                exact ⟨Below.refl _ _, rfl⟩
              refine allFrom_cons ?_ ?_
              · intro a_ w_ hk_
                have h84 : a_.eval (.tmp 84) = (.bool false) := hk_.got 15 84 _ (by kernel_rfl) rfl rfl
                have h95 : a_.eval (.tmp 95) = (.bool true) := hk_.got 26 95 _ (by kernel_rfl) rfl rfl
                have hg_ : a_.eval (.tmp 81) = .bool true := hk_.got 12 81 _ (by kernel_rfl) rfl rfl
                have hy_ := hk_.want 12 _ 81 true rfl rfl hg_
                have hx_ := hk_.ext
                clear hk_
                refine flow_want rfl hy_ ?_
                exact gives_pick rfl h84 ⟨Below.refl _ _, h95⟩
              refine allFrom_cons ?_ ?_
              · intro a_ w_ hk_
                have h81 : a_.eval (.tmp 81) = (.bool true) := hk_.got 12 81 _ (by kernel_rfl) rfl rfl
                have h96 : a_.eval (.tmp 96) = (.bool true) := hk_.got 27 96 _ (by kernel_rfl) rfl rfl
                have hx_ := hk_.ext
                clear hk_
                refine flow_plain rfl ?_
                exact gives_pick rfl h81 ⟨Below.refl _ _, h96⟩
              refine allFrom_cons ?_ ?_
              · intro a_ w_ hk_
                have h97 : a_.eval (.tmp 97) = (.bool true) := hk_.got 28 97 _ (by kernel_rfl) rfl rfl
                have hx_ := hk_.ext
                clear hk_
                refine flow_plain rfl ?_
                exact gives_move rfl ⟨Below.refl _ _, h97⟩
              refine allFrom_cons ?_ ?_
              · intro a_ w_ hk_
                have h18 : a_.eval (.tmp 18) = .int .i64 32 := hk_.old 18 (by kernel_rfl)
                have hg_ : a_.eval (.tmp 98) = .bool true := hk_.got 29 98 _ (by kernel_rfl) rfl rfl
                have hy_ := hk_.want 29 _ 98 true rfl rfl hg_
                have hx_ := hk_.ext
                clear hk_
                refine flow_want rfl hy_ ?_
                exact gives_move rfl ⟨Below.refl _ _, h18⟩
              refine allFrom_cons ?_ ?_
              · intro a_ w_ hk_
                have h99 : a_.eval (.tmp 99) = (.int .i64 32) := hk_.got 30 99 _ (by kernel_rfl) rfl rfl
                have hg_ : a_.eval (.tmp 98) = .bool true := hk_.got 29 98 _ (by kernel_rfl) rfl rfl
                have hy_ := hk_.want 29 _ 98 true rfl rfl hg_
                have hx_ := hk_.ext
                clear hk_
                refine flow_want rfl hy_ ?_
                unfold gives
                have hc_ : ∀ v, a_.eval (.const v) = v := fun _ => rfl
                have hn_ : ∀ f, a_.eval (.func f) = .func (.func f) #[] #[] := fun _ => rfl
                clear hy_ hg_
                generalize a_.eval = ρ_ at *
                go_simp
                exact ⟨Below.refl _ _, rfl⟩
              refine allFrom_cons ?_ ?_
              · intro a_ w_ hk_
                have h100 : a_.eval (.tmp 100) = (.bool false) := hk_.got 31 100 _ (by kernel_rfl) rfl rfl
                have hg_ : a_.eval (.tmp 98) = .bool true := hk_.got 29 98 _ (by kernel_rfl) rfl rfl
                have hy_ := hk_.want 29 _ 98 true rfl rfl hg_
                have hx_ := hk_.ext
                clear hk_
                refine flow_want rfl hy_ ?_
                exact gives_move rfl ⟨Below.refl _ _, h100⟩
              refine allFrom_cons ?_ ?_
              · intro a_ w_ hk_
                have h12 : a_.eval (.tmp 12) = .pointer (some ⟨g7, 0, none⟩) := hk_.old 12 (by kernel_rfl)
                have hg_ : a_.eval (.tmp 101) = .bool false := hk_.got 32 101 _ (by kernel_rfl) rfl rfl
                have hy_ := hk_.want 32 _ 101 false rfl rfl hg_
                have hx_ := hk_.ext
                clear hk_
                refine flow_want rfl hy_ ?_
                unfold gives
                have hc_ : ∀ v, a_.eval (.const v) = v := fun _ => rfl
                have hn_ : ∀ f, a_.eval (.func f) = .func (.func f) #[] #[] := fun _ => rfl
                clear hy_ hg_
                generalize a_.eval = ρ_ at *
                go_simp
                exact ⟨Below.refl _ _, rfl⟩
              refine allFrom_cons ?_ ?_
              · intro a_ w_ hk_
                have h102 : a_.eval (.tmp 102) = (.pointer (some ⟨g7, 1, none⟩)) := hk_.got 33 102 _ (by kernel_rfl) rfl rfl
                have hg_ : a_.eval (.tmp 101) = .bool false := hk_.got 32 101 _ (by kernel_rfl) rfl rfl
                have hy_ := hk_.want 32 _ 101 false rfl rfl hg_
                have hx_ := hk_.ext
                clear hk_
                refine flow_want rfl hy_ ?_
                unfold gives
                have hc_ : ∀ v, a_.eval (.const v) = v := fun _ => rfl
                have hn_ : ∀ f, a_.eval (.func f) = .func (.func f) #[] #[] := fun _ => rfl
                clear hy_ hg_
                have hcell := (hD9.below hx_ hD9.lt).cell 1
                generalize a_.eval = ρ_ at *
                go_simp
                exact ⟨Below.refl _ _, rfl⟩
              refine allFrom_cons ?_ ?_
              · intro a_ w_ hk_
                have h18 : a_.eval (.tmp 18) = .int .i64 32 := hk_.old 18 (by kernel_rfl)
                have hg_ : a_.eval (.tmp 101) = .bool false := hk_.got 32 101 _ (by kernel_rfl) rfl rfl
                have hy_ := hk_.want 32 _ 101 false rfl rfl hg_
                have hx_ := hk_.ext
                clear hk_
                refine flow_want rfl hy_ ?_
                exact gives_move rfl ⟨Below.refl _ _, h18⟩
              refine allFrom_cons ?_ ?_
              · intro a_ w_ hk_
                have h104 : a_.eval (.tmp 104) = (.int .i64 32) := hk_.got 35 104 _ (by kernel_rfl) rfl rfl
                have hg_ : a_.eval (.tmp 101) = .bool false := hk_.got 32 101 _ (by kernel_rfl) rfl rfl
                have hy_ := hk_.want 32 _ 101 false rfl rfl hg_
                have hx_ := hk_.ext
                clear hk_
                refine flow_want rfl hy_ ?_
                unfold gives
                have hc_ : ∀ v, a_.eval (.const v) = v := fun _ => rfl
                have hn_ : ∀ f, a_.eval (.func f) = .func (.func f) #[] #[] := fun _ => rfl
                clear hy_ hg_
                generalize a_.eval = ρ_ at *
                go_simp
                exact ⟨Below.refl _ _, rfl⟩
              refine allFrom_cons ?_ ?_
              · intro a_ w_ hk_
                have h103 : a_.eval (.tmp 103) = (.slice (some ⟨bH, oH, none⟩) 32 cH) := hk_.got 34 103 _ (by kernel_rfl) rfl rfl
                have h105 : a_.eval (.tmp 105) = (.int .i64 31) := hk_.got 36 105 _ (by kernel_rfl) rfl rfl
                have hg_ : a_.eval (.tmp 101) = .bool false := hk_.got 32 101 _ (by kernel_rfl) rfl rfl
                have hy_ := hk_.want 32 _ 101 false rfl rfl hg_
                have hx_ := hk_.ext
                clear hk_
                refine flow_want rfl hy_ ?_
                unfold gives
                have hc_ : ∀ v, a_.eval (.const v) = v := fun _ => rfl
                have hn_ : ∀ f, a_.eval (.func f) = .func (.func f) #[] #[] := fun _ => rfl
                clear hy_ hg_
                have hlt_ : (r : Int) < (r : Int) + 1 := by omega
                generalize a_.eval = ρ_ at *
                go_simp
                exact ⟨Below.refl _ _, rfl⟩
              refine allFrom_cons ?_ ?_
              · intro a_ w_ hk_
                have h106 : a_.eval (.tmp 106) = (.pointer (some ⟨bH, oH + 992, none⟩)) := hk_.got 37 106 _ (by kernel_rfl) rfl rfl
                have hg_ : a_.eval (.tmp 101) = .bool false := hk_.got 32 101 _ (by kernel_rfl) rfl rfl
                have hy_ := hk_.want 32 _ 101 false rfl rfl hg_
                have hx_ := hk_.ext
                clear hk_
                refine flow_want rfl hy_ ?_
                exact gives_loadA rfl h106 (aggHc (hashB_ok r)) (hdh2 _ hx_) ⟨Below.refl _ _, rfl⟩
              refine allFrom_cons ?_ ?_
              · intro a_ w_ hk_
                have h7 : a_.eval (.tmp 7) = .int .i64 ((r : Int) + 1) := hk_.old 7 (by kernel_rfl)
                have hg_ : a_.eval (.tmp 101) = .bool false := hk_.got 32 101 _ (by kernel_rfl) rfl rfl
                have hy_ := hk_.want 32 _ 101 false rfl rfl hg_
                have hx_ := hk_.ext
                clear hk_
                refine flow_want rfl hy_ ?_
                exact gives_move rfl ⟨Below.refl _ _, h7⟩
              refine allFrom_cons ?_ ?_
              · intro a_ w_ hk_
                have h108 : a_.eval (.tmp 108) = (.int .i64 ((r : Int) + 1)) := hk_.got 39 108 _ (by kernel_rfl) rfl rfl
                have hg_ : a_.eval (.tmp 101) = .bool false := hk_.got 32 101 _ (by kernel_rfl) rfl rfl
                have hy_ := hk_.want 32 _ 101 false rfl rfl hg_
                have hx_ := hk_.ext
                clear hk_
                refine flow_want rfl hy_ ?_
                unfold gives
                have hc_ : ∀ v, a_.eval (.const v) = v := fun _ => rfl
                have hn_ : ∀ f, a_.eval (.func f) = .func (.func f) #[] #[] := fun _ => rfl
                clear hy_ hg_
                generalize a_.eval = ρ_ at *
                go_simp
                exact ⟨Below.refl _ _, rfl⟩
              refine allFrom_cons ?_ ?_
              · intro a_ w_ hk_
                have h109 : a_.eval (.tmp 109) = (.int .i64 (r : Int)) := hk_.got 40 109 _ (by kernel_rfl) rfl rfl
                have hg_ : a_.eval (.tmp 101) = .bool false := hk_.got 32 101 _ (by kernel_rfl) rfl rfl
                have hy_ := hk_.want 32 _ 101 false rfl rfl hg_
                have hx_ := hk_.ext
                clear hk_
                refine flow_want rfl hy_ ?_
                unfold gives
                have hc_ : ∀ v, a_.eval (.const v) = v := fun _ => rfl
                have hn_ : ∀ f, a_.eval (.func f) = .func (.func f) #[] #[] := fun _ => rfl
                clear hy_ hg_
                generalize a_.eval = ρ_ at *
                go_simp
                exact ⟨Below.refl _ _, rfl⟩
              refine allFrom_cons ?_ ?_
              · intro a_ w_ hk_
                have h110 : a_.eval (.tmp 110) = (.int .u8 (r : Int)) := hk_.got 41 110 _ (by kernel_rfl) rfl rfl
                have hg_ : a_.eval (.tmp 101) = .bool false := hk_.got 32 101 _ (by kernel_rfl) rfl rfl
                have hy_ := hk_.want 32 _ 101 false rfl rfl hg_
                have hx_ := hk_.ext
                clear hk_
                refine flow_want rfl hy_ ?_
                exact gives_buildHN hr256 rfl h110 ⟨Below.refl _ _, rfl⟩
              refine allFrom_cons ?_ ?_
              · intro a_ w_ hk_
                have h107 : a_.eval (.tmp 107) = (.agg (hc (hashB r)).toArray) := hk_.got 38 107 _ (by kernel_rfl) rfl rfl
                have h111 : a_.eval (.tmp 111) = (.agg (hc (hashB r)).toArray) := hk_.got 42 111 _ (by kernel_rfl) rfl rfl
                have hg_ : a_.eval (.tmp 101) = .bool false := hk_.got 32 101 _ (by kernel_rfl) rfl rfl
                have hy_ := hk_.want 32 _ 101 false rfl rfl hg_
                have hx_ := hk_.ext
                clear hk_
                refine flow_want rfl hy_ ?_
                exact gives_eqA guardH rfl h107 h111 (eqSelfH (hashB_ok r) w_) ⟨Below.refl _ _, rfl⟩
              refine allFrom_cons ?_ ?_
              · intro a_ w_ hk_
                have h101 : a_.eval (.tmp 101) = (.bool false) := hk_.got 32 101 _ (by kernel_rfl) rfl rfl
                have h112 : a_.eval (.tmp 112) = (.bool true) := hk_.got 43 112 _ (by kernel_rfl) rfl rfl
                have hg_ : a_.eval (.tmp 98) = .bool true := hk_.got 29 98 _ (by kernel_rfl) rfl rfl
                have hy_ := hk_.want 29 _ 98 true rfl rfl hg_
                have hx_ := hk_.ext
                clear hk_
                refine flow_want rfl hy_ ?_
                exact gives_pick rfl h101 ⟨Below.refl _ _, h112⟩
              refine allFrom_cons ?_ ?_
              · intro a_ w_ hk_
                have h98 : a_.eval (.tmp 98) = (.bool true) := hk_.got 29 98 _ (by kernel_rfl) rfl rfl
                have h113 : a_.eval (.tmp 113) = (.bool true) := hk_.got 44 113 _ (by kernel_rfl) rfl rfl
                have hx_ := hk_.ext
                clear hk_
                refine flow_plain rfl ?_
                exact gives_pick rfl h98 ⟨Below.refl _ _, h113⟩
              refine allFrom_cons ?_ ?_
              · intro a_ w_ hk_
                have h114 : a_.eval (.tmp 114) = (.bool true) := hk_.got 45 114 _ (by kernel_rfl) rfl rfl
                have hx_ := hk_.ext
                clear hk_
                refine flow_plain rfl ?_
                exact gives_move rfl ⟨Below.refl _ _, h114⟩
              refine allFrom_cons ?_ ?_
              · intro a_ w_ hk_
                have h14 : a_.eval (.tmp 14) = .int .i64 0 := hk_.old 14 (by kernel_rfl)
                have hg_ : a_.eval (.tmp 115) = .bool true := hk_.got 46 115 _ (by kernel_rfl) rfl rfl
                have hy_ := hk_.want 46 _ 115 true rfl rfl hg_
                have hx_ := hk_.ext
                clear hk_
                refine flow_want rfl hy_ ?_
                exact gives_move rfl ⟨Below.refl _ _, h14⟩
              refine allFrom_cons ?_ ?_
              · intro a_ w_ hk_
                have h116 : a_.eval (.tmp 116) = (.int .i64 0) := hk_.got 47 116 _ (by kernel_rfl) rfl rfl
                have hg_ : a_.eval (.tmp 115) = .bool true := hk_.got 46 115 _ (by kernel_rfl) rfl rfl
                have hy_ := hk_.want 46 _ 115 true rfl rfl hg_
                have hx_ := hk_.ext
                clear hk_
                refine flow_want rfl hy_ ?_
                unfold gives
                have hc_ : ∀ v, a_.eval (.const v) = v := fun _ => rfl
                have hn_ : ∀ f, a_.eval (.func f) = .func (.func f) #[] #[] := fun _ => rfl
                clear hy_ hg_
                generalize a_.eval = ρ_ at *
                go_simp
                exact ⟨Below.refl _ _, rfl⟩
              refine allFrom_cons ?_ ?_
              · intro a_ w_ hk_
                have h115 : a_.eval (.tmp 115) = (.bool true) := hk_.got 46 115 _ (by kernel_rfl) rfl rfl
                have h117 : a_.eval (.tmp 117) = (.bool true) := hk_.got 48 117 _ (by kernel_rfl) rfl rfl
                have hx_ := hk_.ext
                clear hk_
                refine flow_plain rfl ?_
                exact gives_pick rfl h115 ⟨Below.refl _ _, h117⟩
              refine allFrom_cons ?_ ?_
              · intro a_ w_ hk_
                have h118 : a_.eval (.tmp 118) = (.bool true) := hk_.got 49 118 _ (by kernel_rfl) rfl rfl
                have hx_ := hk_.ext
                clear hk_
                refine flow_plain rfl ?_
                exact gives_move rfl ⟨Below.refl _ _, h118⟩
              refine allFrom_cons ?_ ?_
              · intro a_ w_ hk_
                have h13 : a_.eval (.tmp 13) = .slice AP pb.length cP := hk_.old 13 (by kernel_rfl)
                have hg_ : a_.eval (.tmp 119) = .bool true := hk_.got 50 119 _ (by kernel_rfl) rfl rfl
                have hy_ := hk_.want 50 _ 119 true rfl rfl hg_
                have hx_ := hk_.ext
                clear hk_
                refine flow_want rfl hy_ ?_
                exact gives_move rfl ⟨Below.refl _ _, h13⟩
              refine allFrom_cons ?_ ?_
              · intro a_ w_ hk_
                have h120 : a_.eval (.tmp 120) = (.slice AP pb.length cP) := hk_.got 51 120 _ (by kernel_rfl) rfl rfl
                have hg_ : a_.eval (.tmp 119) = .bool true := hk_.got 50 119 _ (by kernel_rfl) rfl rfl
                have hy_ := hk_.want 50 _ 119 true rfl rfl hg_
                have hx_ := hk_.ext
                clear hk_
                refine flow_want rfl hy_ ?_
                unfold gives
                have hc_ : ∀ v, a_.eval (.const v) = v := fun _ => rfl
                have hn_ : ∀ f, a_.eval (.func f) = .func (.func f) #[] #[] := fun _ => rfl
                clear hy_ hg_
                generalize a_.eval = ρ_ at *
                go_simp
                exact ⟨Below.refl _ _, rfl⟩
              refine allFrom_cons ?_ ?_
              · intro a_ w_ hk_
                have h17 : a_.eval (.tmp 17) = .int .i64 ((p : Int) + 1) := hk_.old 17 (by kernel_rfl)
                have hg_ : a_.eval (.tmp 119) = .bool true := hk_.got 50 119 _ (by kernel_rfl) rfl rfl
                have hy_ := hk_.want 50 _ 119 true rfl rfl hg_
                have hx_ := hk_.ext
                clear hk_
                refine flow_want rfl hy_ ?_
                exact gives_move rfl ⟨Below.refl _ _, h17⟩
              refine allFrom_cons ?_ ?_
              · intro a_ w_ hk_
                have h122 : a_.eval (.tmp 122) = (.int .i64 ((p : Int) + 1)) := hk_.got 53 122 _ (by kernel_rfl) rfl rfl
                have hg_ : a_.eval (.tmp 119) = .bool true := hk_.got 50 119 _ (by kernel_rfl) rfl rfl
                have hy_ := hk_.want 50 _ 119 true rfl rfl hg_
                have hx_ := hk_.ext
                clear hk_
                refine flow_want rfl hy_ ?_
                unfold gives
                have hc_ : ∀ v, a_.eval (.const v) = v := fun _ => rfl
                have hn_ : ∀ f, a_.eval (.func f) = .func (.func f) #[] #[] := fun _ => rfl
                clear hy_ hg_
                generalize a_.eval = ρ_ at *
                go_simp
                exact ⟨Below.refl _ _, rfl⟩
              refine allFrom_cons ?_ ?_
              · intro a_ w_ hk_
                have h123 : a_.eval (.tmp 123) = (.int .i64 (40 * ((p : Int) + 1))) := hk_.got 54 123 _ (by kernel_rfl) rfl rfl
                have hg_ : a_.eval (.tmp 119) = .bool true := hk_.got 50 119 _ (by kernel_rfl) rfl rfl
                have hy_ := hk_.want 50 _ 119 true rfl rfl hg_
                have hx_ := hk_.ext
                clear hk_
                refine flow_want rfl hy_ ?_
                unfold gives
                have hc_ : ∀ v, a_.eval (.const v) = v := fun _ => rfl
                have hn_ : ∀ f, a_.eval (.func f) = .func (.func f) #[] #[] := fun _ => rfl
                clear hy_ hg_
                generalize a_.eval = ρ_ at *
                go_simp
                exact ⟨Below.refl _ _, rfl⟩
              refine allFrom_cons ?_ ?_
              · intro a_ w_ hk_
                have h18 : a_.eval (.tmp 18) = .int .i64 32 := hk_.old 18 (by kernel_rfl)
                have hg_ : a_.eval (.tmp 119) = .bool true := hk_.got 50 119 _ (by kernel_rfl) rfl rfl
                have hy_ := hk_.want 50 _ 119 true rfl rfl hg_
                have hx_ := hk_.ext
                clear hk_
                refine flow_want rfl hy_ ?_
                exact gives_move rfl ⟨Below.refl _ _, h18⟩
              refine allFrom_cons ?_ ?_
              · intro a_ w_ hk_
                have h125 : a_.eval (.tmp 125) = (.int .i64 32) := hk_.got 56 125 _ (by kernel_rfl) rfl rfl
                have hg_ : a_.eval (.tmp 119) = .bool true := hk_.got 50 119 _ (by kernel_rfl) rfl rfl
                have hy_ := hk_.want 50 _ 119 true rfl rfl hg_
                have hx_ := hk_.ext
                clear hk_
                refine flow_want rfl hy_ ?_
                unfold gives
                have hc_ : ∀ v, a_.eval (.const v) = v := fun _ => rfl
                have hn_ : ∀ f, a_.eval (.func f) = .func (.func f) #[] #[] := fun _ => rfl
                clear hy_ hg_
                generalize a_.eval = ρ_ at *
                go_simp
                exact ⟨Below.refl _ _, rfl⟩
              refine allFrom_cons ?_ ?_
              · intro a_ w_ hk_
                have h124 : a_.eval (.tmp 124) = (.int .i64 (2 + 40 * ((p : Int) + 1))) := hk_.got 55 124 _ (by kernel_rfl) rfl rfl
                have h126 : a_.eval (.tmp 126) = (.int .i64 (1024)) := hk_.got 57 126 _ (by kernel_rfl) rfl rfl
                have hg_ : a_.eval (.tmp 119) = .bool true := hk_.got 50 119 _ (by kernel_rfl) rfl rfl
                have hy_ := hk_.want 50 _ 119 true rfl rfl hg_
                have hx_ := hk_.ext
                clear hk_
                refine flow_want rfl hy_ ?_
                unfold gives
                have hc_ : ∀ v, a_.eval (.const v) = v := fun _ => rfl
                have hn_ : ∀ f, a_.eval (.func f) = .func (.func f) #[] #[] := fun _ => rfl
                clear hy_ hg_
                generalize a_.eval = ρ_ at *
                go_simp
                exact ⟨Below.refl _ _, rfl⟩
              refine allFrom_cons ?_ ?_
              · intro a_ w_ hk_
                have h121 : a_.eval (.tmp 121) = (.int .i64 (pb.length : Int)) := hk_.got 52 121 _ (by kernel_rfl) rfl rfl
                have h127 : a_.eval (.tmp 127) = (.int .i64 (2 + 40 * ((p : Int) + 1) + 1024)) := hk_.got 58 127 _ (by kernel_rfl) rfl rfl
                have hg_ : a_.eval (.tmp 119) = .bool true := hk_.got 50 119 _ (by kernel_rfl) rfl rfl
                have hy_ := hk_.want 50 _ 119 true rfl rfl hg_
                have hx_ := hk_.ext
                clear hk_
                refine flow_want rfl hy_ ?_
                unfold gives
                have hc_ : ∀ v, a_.eval (.const v) = v := fun _ => rfl
                have hn_ : ∀ f, a_.eval (.func f) = .func (.func f) #[] #[] := fun _ => rfl
                clear hy_ hg_
                generalize a_.eval = ρ_ at *
                go_simp
                exact ⟨Below.refl _ _, rfl⟩
              refine allFrom_cons ?_ ?_
              · intro a_ w_ hk_
                have h119 : a_.eval (.tmp 119) = (.bool true) := hk_.got 50 119 _ (by kernel_rfl) rfl rfl
                have h128 : a_.eval (.tmp 128) = (.bool true) := hk_.got 59 128 _ (by kernel_rfl) rfl rfl
                have hx_ := hk_.ext
                clear hk_
                refine flow_plain rfl ?_
                exact gives_pick rfl h119 ⟨Below.refl _ _, h128⟩
              refine allFrom_cons ?_ ?_
              · intro a_ w_ hk_
                have h129 : a_.eval (.tmp 129) = (.bool true) := hk_.got 60 129 _ (by kernel_rfl) rfl rfl
                have hx_ := hk_.ext
                clear hk_
                refine flow_plain rfl ?_
                exact gives_move rfl ⟨Below.refl _ _, h129⟩
              refine allFrom_cons ?_ ?_
              · intro a_ w_ hk_
                have h16 : a_.eval (.tmp 16) = .int .i64 13 := hk_.old 16 (by kernel_rfl)
                have hg_ : a_.eval (.tmp 130) = .bool true := hk_.got 61 130 _ (by kernel_rfl) rfl rfl
                have hy_ := hk_.want 61 _ 130 true rfl rfl hg_
                have hx_ := hk_.ext
                clear hk_
                refine flow_want rfl hy_ ?_
                exact gives_move rfl ⟨Below.refl _ _, h16⟩
              refine allFrom_cons ?_ ?_
              · intro a_ w_ hk_
                have h131 : a_.eval (.tmp 131) = (.int .i64 13) := hk_.got 62 131 _ (by kernel_rfl) rfl rfl
                have hg_ : a_.eval (.tmp 130) = .bool true := hk_.got 61 130 _ (by kernel_rfl) rfl rfl
                have hy_ := hk_.want 61 _ 130 true rfl rfl hg_
                have hx_ := hk_.ext
                clear hk_
                refine flow_want rfl hy_ ?_
                unfold gives
                have hc_ : ∀ v, a_.eval (.const v) = v := fun _ => rfl
                have hn_ : ∀ f, a_.eval (.func f) = .func (.func f) #[] #[] := fun _ => rfl
                clear hy_ hg_
                generalize a_.eval = ρ_ at *
                go_simp
                exact ⟨Below.refl _ _, rfl⟩
              refine allFrom_cons ?_ ?_
              · intro a_ w_ hk_
                have h6 : a_.eval (.tmp 6) = .int .i64 ((p : Int) + 1) := hk_.old 6 (by kernel_rfl)
                have hg_ : a_.eval (.tmp 130) = .bool true := hk_.got 61 130 _ (by kernel_rfl) rfl rfl
                have hy_ := hk_.want 61 _ 130 true rfl rfl hg_
                have hx_ := hk_.ext
                clear hk_
                refine flow_want rfl hy_ ?_
                exact gives_move rfl ⟨Below.refl _ _, h6⟩
              refine allFrom_cons ?_ ?_
              · intro a_ w_ hk_
                have h133 : a_.eval (.tmp 133) = (.int .i64 ((p : Int) + 1)) := hk_.got 64 133 _ (by kernel_rfl) rfl rfl
                have hg_ : a_.eval (.tmp 130) = .bool true := hk_.got 61 130 _ (by kernel_rfl) rfl rfl
                have hy_ := hk_.want 61 _ 130 true rfl rfl hg_
                have hx_ := hk_.ext
                clear hk_
                refine flow_want rfl hy_ ?_
                unfold gives
                have hc_ : ∀ v, a_.eval (.const v) = v := fun _ => rfl
                have hn_ : ∀ f, a_.eval (.func f) = .func (.func f) #[] #[] := fun _ => rfl
                clear hy_ hg_
                generalize a_.eval = ρ_ at *
                go_simp
                exact ⟨Below.refl _ _, rfl⟩
              refine allFrom_cons ?_ ?_
              · intro a_ w_ hk_
                have h134 : a_.eval (.tmp 134) = (.bool true) := hk_.got 65 134 _ (by kernel_rfl) rfl rfl
                have hg_ : a_.eval (.tmp 130) = .bool true := hk_.got 61 130 _ (by kernel_rfl) rfl rfl
                have hy_ := hk_.want 61 _ 130 true rfl rfl hg_
                have hx_ := hk_.ext
                clear hk_
                refine flow_want rfl hy_ ?_
                exact gives_move rfl ⟨Below.refl _ _, h134⟩
              refine allFrom_cons ?_ ?_
              · intro a_ w_ hk_
                have h7 : a_.eval (.tmp 7) = .int .i64 ((r : Int) + 1) := hk_.old 7 (by kernel_rfl)
                have hg_ : a_.eval (.tmp 135) = .bool true := hk_.got 66 135 _ (by kernel_rfl) rfl rfl
                have hy_ := hk_.want 66 _ 135 true rfl rfl hg_
                have hx_ := hk_.ext
                clear hk_
                refine flow_want rfl hy_ ?_
                exact gives_move rfl ⟨Below.refl _ _, h7⟩
              refine allFrom_cons ?_ ?_
              · intro a_ w_ hk_
                have h136 : a_.eval (.tmp 136) = (.int .i64 ((r : Int) + 1)) := hk_.got 67 136 _ (by kernel_rfl) rfl rfl
                have hg_ : a_.eval (.tmp 135) = .bool true := hk_.got 66 135 _ (by kernel_rfl) rfl rfl
                have hy_ := hk_.want 66 _ 135 true rfl rfl hg_
                have hx_ := hk_.ext
                clear hk_
                refine flow_want rfl hy_ ?_
                unfold gives
                have hc_ : ∀ v, a_.eval (.const v) = v := fun _ => rfl
                have hn_ : ∀ f, a_.eval (.func f) = .func (.func f) #[] #[] := fun _ => rfl
                clear hy_ hg_
                generalize a_.eval = ρ_ at *
                go_simp
                exact ⟨Below.refl _ _, rfl⟩
              refine allFrom_cons ?_ ?_
              · intro a_ w_ hk_
                have h135 : a_.eval (.tmp 135) = (.bool true) := hk_.got 66 135 _ (by kernel_rfl) rfl rfl
                have h137 : a_.eval (.tmp 137) = (.bool false) := hk_.got 68 137 _ (by kernel_rfl) rfl rfl
                have hg_ : a_.eval (.tmp 130) = .bool true := hk_.got 61 130 _ (by kernel_rfl) rfl rfl
                have hy_ := hk_.want 61 _ 130 true rfl rfl hg_
                have hx_ := hk_.ext
                clear hk_
                refine flow_want rfl hy_ ?_
                exact gives_pick rfl h135 ⟨Below.refl _ _, h137⟩
              refine allFrom_cons ?_ ?_
              · intro a_ w_ hk_
                have h132 : a_.eval (.tmp 132) = (.bool false) := hk_.got 63 132 _ (by kernel_rfl) rfl rfl
                have h138 : a_.eval (.tmp 138) = (.bool false) := hk_.got 69 138 _ (by kernel_rfl) rfl rfl
                have hg_ : a_.eval (.tmp 130) = .bool true := hk_.got 61 130 _ (by kernel_rfl) rfl rfl
                have hy_ := hk_.want 61 _ 130 true rfl rfl hg_
                have hx_ := hk_.ext
                clear hk_
                refine flow_want rfl hy_ ?_
                unfold gives
                have hc_ : ∀ v, a_.eval (.const v) = v := fun _ => rfl
                have hn_ : ∀ f, a_.eval (.func f) = .func (.func f) #[] #[] := fun _ => rfl
                clear hy_ hg_
                generalize a_.eval = ρ_ at *
                go_simp
                exact ⟨Below.refl _ _, rfl⟩
              refine allFrom_cons ?_ ?_
              · intro a_ w_ hk_
                have h130 : a_.eval (.tmp 130) = (.bool true) := hk_.got 61 130 _ (by kernel_rfl) rfl rfl
                have h139 : a_.eval (.tmp 139) = (.bool true) := hk_.got 70 139 _ (by kernel_rfl) rfl rfl
                have hx_ := hk_.ext
                clear hk_
                refine flow_plain rfl ?_
                exact gives_pick rfl h130 ⟨Below.refl _ _, h139⟩
              refine allFrom_cons ?_ ?_
              · intro a_ w_ hk_
                have h140 : a_.eval (.tmp 140) = (.bool true) := hk_.got 71 140 _ (by kernel_rfl) rfl rfl
                have hx_ := hk_.ext
                clear hk_
                refine flow_plain rfl ?_
                exact gives_assign rfl ⟨Below.refl _ _, h140⟩
              exact allFrom_nil
            intro f_ w_ hx_ hf_
            have h69 : f_ 69 = (.pointer (some ⟨g7, 0, none⟩)) := hf_ 0 69 _ (by decide) rfl rfl
            have h70 : f_ 70 = (.slice (some ⟨bK, oK, none⟩) (p + 1) cK) := hf_ 1 70 _ (by decide) rfl rfl
            have h71 : f_ 71 = (.int .i64 ((p : Int) + 1)) := hf_ 2 71 _ (by decide) rfl rfl
            have h72 : f_ 72 = (.int .i64 ((p : Int) + 1)) := hf_ 3 72 _ (by decide) rfl rfl
            have h73 : f_ 73 = (.bool true) := hf_ 4 73 _ (by decide) rfl rfl
            have h74 : f_ 74 = (.bool true) := hf_ 5 74 _ (by decide) rfl rfl
            have h75 : f_ 75 = (.pointer (some ⟨g7, 1, none⟩)) := hf_ 6 75 _ (by decide) rfl rfl
            have h76 : f_ 76 = (.slice (some ⟨bH, oH, none⟩) 32 cH) := hf_ 7 76 _ (by decide) rfl rfl
            have h77 : f_ 77 = (.int .i64 32) := hf_ 8 77 _ (by decide) rfl rfl
            have h78 : f_ 78 = (.int .i64 32) := hf_ 9 78 _ (by decide) rfl rfl
            have h79 : f_ 79 = (.bool true) := hf_ 10 79 _ (by decide) rfl rfl
            have h80 : f_ 80 = (.bool true) := hf_ 11 80 _ (by decide) rfl rfl
            have h81 : f_ 81 = (.bool true) := hf_ 12 81 _ (by decide) rfl rfl
            have h82 : f_ 82 = (.int .i64 ((p : Int) + 1)) := hf_ 13 82 _ (by decide) rfl rfl
            have h83 : f_ 83 = (.bool false) := hf_ 14 83 _ (by decide) rfl rfl
            have h84 : f_ 84 = (.bool false) := hf_ 15 84 _ (by decide) rfl rfl
            have h85 : f_ 85 = (.pointer (some ⟨g7, 0, none⟩)) := hf_ 16 85 _ (by decide) rfl rfl
            have h86 : f_ 86 = (.slice (some ⟨bK, oK, none⟩) (p + 1) cK) := hf_ 17 86 _ (by decide) rfl rfl
            have h87 : f_ 87 = (.int .i64 ((p : Int) + 1)) := hf_ 18 87 _ (by decide) rfl rfl
            have h88 : f_ 88 = (.int .i64 (p : Int)) := hf_ 19 88 _ (by decide) rfl rfl
            have h89 : f_ 89 = (.pointer (some ⟨bK, oK + p * 33, none⟩)) := hf_ 20 89 _ (by decide) rfl rfl
            have h90 : f_ 90 = (.pointer (some ⟨bK, oK + p * 33, none⟩)) := hf_ 21 90 _ (by decide) rfl rfl
            have h91 : f_ 91 = (.int .u64 (p : Int)) := hf_ 22 91 _ (by decide) rfl rfl
            have h92 : f_ 92 = (.int .i64 ((p : Int) + 1)) := hf_ 23 92 _ (by decide) rfl rfl
            have h93 : f_ 93 = (.int .i64 (p : Int)) := hf_ 24 93 _ (by decide) rfl rfl
            have h94 : f_ 94 = (.int .u64 (p : Int)) := hf_ 25 94 _ (by decide) rfl rfl
            have h95 : f_ 95 = (.bool true) := hf_ 26 95 _ (by decide) rfl rfl
            have h96 : f_ 96 = (.bool true) := hf_ 27 96 _ (by decide) rfl rfl
            have h97 : f_ 97 = (.bool true) := hf_ 28 97 _ (by decide) rfl rfl
            have h98 : f_ 98 = (.bool true) := hf_ 29 98 _ (by decide) rfl rfl
            have h99 : f_ 99 = (.int .i64 32) := hf_ 30 99 _ (by decide) rfl rfl
            have h100 : f_ 100 = (.bool false) := hf_ 31 100 _ (by decide) rfl rfl
            have h101 : f_ 101 = (.bool false) := hf_ 32 101 _ (by decide) rfl rfl
            have h102 : f_ 102 = (.pointer (some ⟨g7, 1, none⟩)) := hf_ 33 102 _ (by decide) rfl rfl
            have h103 : f_ 103 = (.slice (some ⟨bH, oH, none⟩) 32 cH) := hf_ 34 103 _ (by decide) rfl rfl
            have h104 : f_ 104 = (.int .i64 32) := hf_ 35 104 _ (by decide) rfl rfl
            have h105 : f_ 105 = (.int .i64 31) := hf_ 36 105 _ (by decide) rfl rfl
            have h106 : f_ 106 = (.pointer (some ⟨bH, oH + 992, none⟩)) := hf_ 37 106 _ (by decide) rfl rfl
            have h107 : f_ 107 = (.agg (hc (hashB r)).toArray) := hf_ 38 107 _ (by decide) rfl rfl
            have h108 : f_ 108 = (.int .i64 ((r : Int) + 1)) := hf_ 39 108 _ (by decide) rfl rfl
            have h109 : f_ 109 = (.int .i64 (r : Int)) := hf_ 40 109 _ (by decide) rfl rfl
            have h110 : f_ 110 = (.int .u8 (r : Int)) := hf_ 41 110 _ (by decide) rfl rfl
            have h111 : f_ 111 = (.agg (hc (hashB r)).toArray) := hf_ 42 111 _ (by decide) rfl rfl
            have h112 : f_ 112 = (.bool true) := hf_ 43 112 _ (by decide) rfl rfl
            have h113 : f_ 113 = (.bool true) := hf_ 44 113 _ (by decide) rfl rfl
            have h114 : f_ 114 = (.bool true) := hf_ 45 114 _ (by decide) rfl rfl
            have h115 : f_ 115 = (.bool true) := hf_ 46 115 _ (by decide) rfl rfl
            have h116 : f_ 116 = (.int .i64 0) := hf_ 47 116 _ (by decide) rfl rfl
            have h117 : f_ 117 = (.bool true) := hf_ 48 117 _ (by decide) rfl rfl
            have h118 : f_ 118 = (.bool true) := hf_ 49 118 _ (by decide) rfl rfl
            have h119 : f_ 119 = (.bool true) := hf_ 50 119 _ (by decide) rfl rfl
            have h120 : f_ 120 = (.slice AP pb.length cP) := hf_ 51 120 _ (by decide) rfl rfl
            have h121 : f_ 121 = (.int .i64 (pb.length : Int)) := hf_ 52 121 _ (by decide) rfl rfl
            have h122 : f_ 122 = (.int .i64 ((p : Int) + 1)) := hf_ 53 122 _ (by decide) rfl rfl
            have h123 : f_ 123 = (.int .i64 (40 * ((p : Int) + 1))) := hf_ 54 123 _ (by decide) rfl rfl
            have h124 : f_ 124 = (.int .i64 (2 + 40 * ((p : Int) + 1))) := hf_ 55 124 _ (by decide) rfl rfl
            have h125 : f_ 125 = (.int .i64 32) := hf_ 56 125 _ (by decide) rfl rfl
            have h126 : f_ 126 = (.int .i64 (1024)) := hf_ 57 126 _ (by decide) rfl rfl
            have h127 : f_ 127 = (.int .i64 (2 + 40 * ((p : Int) + 1) + 1024)) := hf_ 58 127 _ (by decide) rfl rfl
            have h128 : f_ 128 = (.bool true) := hf_ 59 128 _ (by decide) rfl rfl
            have h129 : f_ 129 = (.bool true) := hf_ 60 129 _ (by decide) rfl rfl
            have h130 : f_ 130 = (.bool true) := hf_ 61 130 _ (by decide) rfl rfl
            have h131 : f_ 131 = (.int .i64 13) := hf_ 62 131 _ (by decide) rfl rfl
            have h132 : f_ 132 = (.bool false) := hf_ 63 132 _ (by decide) rfl rfl
            have h133 : f_ 133 = (.int .i64 ((p : Int) + 1)) := hf_ 64 133 _ (by decide) rfl rfl
            have h134 : f_ 134 = (.bool true) := hf_ 65 134 _ (by decide) rfl rfl
            have h135 : f_ 135 = (.bool true) := hf_ 66 135 _ (by decide) rfl rfl
            have h136 : f_ 136 = (.int .i64 ((r : Int) + 1)) := hf_ 67 136 _ (by decide) rfl rfl
            have h137 : f_ 137 = (.bool false) := hf_ 68 137 _ (by decide) rfl rfl
            have h138 : f_ 138 = (.bool false) := hf_ 69 138 _ (by decide) rfl rfl
            have h139 : f_ 139 = (.bool true) := hf_ 70 139 _ (by decide) rfl rfl
            have h140 : f_ 140 = (.bool true) := hf_ 71 140 _ (by decide) rfl rfl
            have h4 : f_ 4 = (.bool true) := hf_ 72 4 _ (by decide) rfl rfl
            simp only [mix, h69, h70, h71, h72, h73, h74, h75, h76, h77, h78, h79, h80, h81, h82, h83, h84, h85, h86, h87, h88, h89, h90, h91, h92, h93, h94, h95, h96, h97, h98, h99, h100, h101, h102, h103, h104, h105, h106, h107, h108, h109, h110, h111, h112, h113, h114, h115, h116, h117, h118, h119, h120, h121, h122, h123, h124, h125, h126, h127, h128, h129, h130, h131, h132, h133, h134, h135, h136, h137, h138, h139, h140, h4]
            clear h69 h70 h71 h72 h73 h74 h75 h76 h77 h78 h79 h80 h81 h82 h83 h84 h85 h86 h87 h88 h89 h90 h91 h92 h93 h94 h95 h96 h97 h98 h99 h100 h101 h102 h103 h104 h105 h106 h107 h108 h109 h110 h111 h112 h113 h114 h115 h116 h117 h118 h119 h120 h121 h122 h123 h124 h125 h126 h127 h128 h129 h130 h131 h132 h133 h134 h135 h136 h137 h138 h139 h140 h4
            clear hf_
            go_wp2
            go_ret
            exact ⟨rfl, bx_trans hb010 hx_⟩
end Go.Proofs.Ythbmmilefimpaaa
