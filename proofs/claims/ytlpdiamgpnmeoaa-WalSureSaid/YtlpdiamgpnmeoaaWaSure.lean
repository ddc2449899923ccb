
/- Records: WalSure walked. -/
import Derived.Test.YtlpdiamgpnmeoaaWaSa
namespace Go.Proofs.Ytlpdiamgpnmeoaa
open Go.RowKit
set_option linter.unusedVariables false
set_option maxRecDepth 100000 in
set_option maxHeartbeats 8000000 in
theorem WalSure_walk (w : World) (As : Option Addr) (cs : Nat) (acts : List ActD) (hcs : acts.length ≤ cs) (hms : cs ≤ maxLen) (hok : ∀ a ∈ acts, ActOk w a) (hrs : Rd w w.heap.size As (acts.map ActD.cells).flatten) (Af : Option Addr) (cf : Nat) (fronts : List (List UInt8)) (hcf : fronts.length ≤ cf) (hmf : cf ≤ maxLen) (hsf : ∀ l ∈ fronts, l.length ≤ maxLen) (hrf : RdBB w w.heap.size Af fronts) :
    Calls Try.prog 7 #[.slice As acts.length cs, .slice Af fronts.length cf] w fun e w' => e = .returned (.bool true) ∧ Below w.heap.size w w' := by
  have hms' : cs ≤ 9223372036854775807 := hms
  have hmf' : cf ≤ 9223372036854775807 := hmf
  have HRS := hid hrs
  have HRF := hid hrf
  have HOK := hid hok
  have HSF := hid hsf
  clear hrs hrf hok hms hmf hsf
  go_enter Try.func7, Try.ntmps7
  rw [holdSeq 21, holdSeq 23, holdSeq 45, hold 13, hold 17, hold 21, hold 23, hold 45, hold 56, hold 59]
  go_wp2_with fail
  refine (awake_any _).mono ?_
  rintro e w0 ⟨rfl, hb0⟩
  by_cases hfl : fronts.length < acts.length
  · have hfi : (fronts.length : Int) < (acts.length : Int) := by omega
    go_wp2_with fail
    exact bodyPost_ret (results_tmp rfl _ _ _) rfl ⟨rfl, hb0⟩
  have hfi : ¬ (fronts.length : Int) < (acts.length : Int) := by omega
  have HB0 := hid hb0
  have hB0 : w.heap.size ≤ w0.heap.size := hb0.size
  clear hb0
  go_wp2_with fail
  refine (New_yes w0 16 (by decide) (by decide)).mono ?_
  rintro e w1 ⟨g, rfl, hd1, hb1⟩
  go_wp2_with fail
  refine (cOpen w1 hd1 hb1.size (by decide) rfl rfl (new_dur 16 (by omega))).mono ?_
  rintro e w2 ⟨gl, rfl, hh2, hb2⟩
  rw [show sizeD (newD 16) = 7 from rfl] at hh2
  have hI0 : SureI w0 g gl 0 (newD 16) { size := 7, turn := 0, area := 0, b := framL [], rows := [], sure := ([] : List (List UInt8)).length, e := 0 } [] (.slice none 0 0) (.slice none 0 0) w2 := ⟨hh2, rfl, rfl, Nat.le_refl _, Nat.le_refl _, bx_trans hb1 hb2, nil_ownC _ _ _ _, nil_ownC _ _ _ _⟩
  have HI0 := hid hI0
  clear hI0 hd1 hh2 hb1 hb2 hfi
  go_wp2_with fail
  go_loopw [8, 10, 11, 12] (fun v8 v10 v11 v12 wr => ∃ (i gl : Nat) (D : DS) (L : LS) (rs : List (List UInt8)), i ≤ acts.length ∧ i ≤ 20 ∧ v12 = .int .i64 (i : Int) ∧ v8 = .pointer (some ⟨gl, 0, none⟩) ∧ SureI w0 g gl i D L rs v10 v11 wr) (fun _ _ _ v12 _ => acts.length - (ofInt v12).toNat)
  case atStart => exact ⟨0, gl, _, _, _, Nat.zero_le _, Nat.zero_le _, rfl, rfl, HI0.out⟩
  case round =>
    obtain ⟨i, gl', D, L, rs, hi, hi20, rfl, rfl, hI⟩ := hrel
    rename World => wr
    clear HI0
    have HI := hid hI
    have hbw := HB0.out.trans (hI.below.mono hB0)
    have HBW := hid hbw
    clear hI hbw
    have hi63 : (i : Int) ≤ 20 := by omega
    by_cases hlt : i < acts.length
    · have hlti : (i : Int) < (acts.length : Int) := by omega
      by_cases hl20 : i < 20
      · have hl20i : (i : Int) < 20 := by omega
        go_wp2_with fail
        refine wp_hold (wp_region_lit ?_)
        refine wp_flowSE [0, 1, 3, 7, 15, 31, 63, 127] 8 [false, false, false, false, false, false, false, false, false, false, false, false, false, false, false, false, false, false, false, false, false, false, false, false, false, false, false, false, false, false, false, false, false, false, false, false, false, false, true, true, true, true, true, true, true, true] (by kernel_rfl) (by kernel_rfl) (by kernel_rfl) [FP.eq (.int .i64 (i : Int)), FP.eq (.slice As acts.length cs), FP.eq (.int .i64 (acts.length : Int)), FP.eq (.bool true), FP.eq (.bool true), FP.eq (.int .i64 (i : Int)), FP.eq (.bool true), FP.eq (.bool true)] ?_ ?_
        · refine allFrom_cons ?_ ?_
          · intro a_ w_ hk_
            have h12 : a_.eval (.tmp 12) = .int .i64 (i : Int) := hk_.old 12 (by kernel_rfl)
            have hx_ := hk_.ext
            clear hk_
            refine flow_plain rfl ?_
            exact gives_move rfl ⟨Below.refl _ _, h12⟩
          refine allFrom_cons ?_ ?_
          · intro a_ w_ hk_
            have h0 : a_.eval (.tmp 0) = .slice As acts.length cs := hk_.old 0 (by kernel_rfl)
            have hx_ := hk_.ext
            clear hk_
            refine flow_plain rfl ?_
            exact gives_move rfl ⟨Below.refl _ _, h0⟩
          refine allFrom_cons ?_ ?_
          · intro a_ w_ hk_
            have h39 : a_.eval (.tmp 39) = (.slice As acts.length cs) := hk_.got 1 39 _ (by kernel_rfl) rfl rfl
            have hx_ := hk_.ext
            clear hk_
            refine flow_plain rfl ?_
            unfold gives
            have hc_ : ∀ v, a_.eval (.const v) = v := fun _ => rfl
            have hn_ : ∀ f, a_.eval (.func f) = .func (.func f) #[] #[] := fun _ => rfl
            generalize a_.eval = ρ_ at *
            go_simp
            exact ⟨Below.refl _ _, rfl⟩
          refine allFrom_cons ?_ ?_
          · intro a_ w_ hk_
            have h38 : a_.eval (.tmp 38) = (.int .i64 (i : Int)) := hk_.got 0 38 _ (by kernel_rfl) rfl rfl
            have h40 : a_.eval (.tmp 40) = (.int .i64 (acts.length : Int)) := hk_.got 2 40 _ (by kernel_rfl) rfl rfl
            have hx_ := hk_.ext
            clear hk_
            refine flow_plain rfl ?_
            unfold gives
            have hc_ : ∀ v, a_.eval (.const v) = v := fun _ => rfl
            have hn_ : ∀ f, a_.eval (.func f) = .func (.func f) #[] #[] := fun _ => rfl
            generalize a_.eval = ρ_ at *
            go_simp
            exact ⟨Below.refl _ _, rfl⟩
          refine allFrom_cons ?_ ?_
          · intro a_ w_ hk_
            have h41 : a_.eval (.tmp 41) = (.bool true) := hk_.got 3 41 _ (by kernel_rfl) rfl rfl
            have hx_ := hk_.ext
            clear hk_
            refine flow_plain rfl ?_
            exact gives_move rfl ⟨Below.refl _ _, h41⟩
          refine allFrom_cons ?_ ?_
          · intro a_ w_ hk_
            have h12 : a_.eval (.tmp 12) = .int .i64 (i : Int) := hk_.old 12 (by kernel_rfl)
            have hg_ : a_.eval (.tmp 42) = .bool true := hk_.got 4 42 _ (by kernel_rfl) rfl rfl
            have hy_ := hk_.want 4 _ 42 true rfl rfl hg_
            have hx_ := hk_.ext
            clear hk_
            refine flow_want rfl hy_ ?_
            exact gives_move rfl ⟨Below.refl _ _, h12⟩
          refine allFrom_cons ?_ ?_
          · intro a_ w_ hk_
            have h43 : a_.eval (.tmp 43) = (.int .i64 (i : Int)) := hk_.got 5 43 _ (by kernel_rfl) rfl rfl
            have hg_ : a_.eval (.tmp 42) = .bool true := hk_.got 4 42 _ (by kernel_rfl) rfl rfl
            have hy_ := hk_.want 4 _ 42 true rfl rfl hg_
            have hx_ := hk_.ext
            clear hk_
            refine flow_want rfl hy_ ?_
            unfold gives
            have hc_ : ∀ v, a_.eval (.const v) = v := fun _ => rfl
            have hn_ : ∀ f, a_.eval (.func f) = .func (.func f) #[] #[] := fun _ => rfl
            clear hy_ hg_
            generalize a_.eval = ρ_ at *
            go_simp
            exact ⟨Below.refl _ _, rfl⟩
          refine allFrom_cons ?_ ?_
          · intro a_ w_ hk_
            have h42 : a_.eval (.tmp 42) = (.bool true) := hk_.got 4 42 _ (by kernel_rfl) rfl rfl
            have h44 : a_.eval (.tmp 44) = (.bool true) := hk_.got 6 44 _ (by kernel_rfl) rfl rfl
            have hx_ := hk_.ext
            clear hk_
            refine flow_plain rfl ?_
            exact gives_pick rfl h42 ⟨Below.refl _ _, h44⟩
          exact allFrom_nil
        intro f_ w_ hx_ hf_
        have h38 : f_ 38 = (.int .i64 (i : Int)) := hf_ 0 38 _ (by decide) rfl rfl
        have h39 : f_ 39 = (.slice As acts.length cs) := hf_ 1 39 _ (by decide) rfl rfl
        have h40 : f_ 40 = (.int .i64 (acts.length : Int)) := hf_ 2 40 _ (by decide) rfl rfl
        have h41 : f_ 41 = (.bool true) := hf_ 3 41 _ (by decide) rfl rfl
        have h42 : f_ 42 = (.bool true) := hf_ 4 42 _ (by decide) rfl rfl
        have h43 : f_ 43 = (.int .i64 (i : Int)) := hf_ 5 43 _ (by decide) rfl rfl
        have h44 : f_ 44 = (.bool true) := hf_ 6 44 _ (by decide) rfl rfl
        have h45 : f_ 45 = (.bool true) := hf_ 7 45 _ (by decide) rfl rfl
        simp only [mix, h38, h39, h40, h41, h42, h43, h44, h45]
        clear h38 h39 h40 h41 h42 h43 h44 h45
        clear hf_
        obtain ⟨wa, hwa⟩ : ∃ wa, wa = w_ := ⟨_, rfl⟩
        rw [← hwa] at hx_ ⊢
        clear hwa
        have hI1 := HI.out.below' hx_
        have hbw1 := bx_trans HBW.out hx_
        obtain ⟨a, ha⟩ : ∃ a, a = acts[i] := ⟨_, rfl⟩
        have hao : ActOk w a := by rw [ha]; exact HOK.out _ (List.getElem_mem hlt)
        have HAO0 := hid hao
        obtain ⟨bs, offs, rfl, hbs, hcs0⟩ := HRS.out.at_ (k := i * 4) (by
          have h1 := acts_get hlt 0 (.int .i64 acts[i].kind) rfl
          exact (List.getElem?_eq_some_iff.1 h1).1)
        have hcA : ∀ j v, a.cells[j]? = some v → wa.cell? ⟨bs, offs + i * 4 + j, none⟩ = some v := by
          intro j v hv
          rw [ha] at hv
          have h1 := hcs0 (i * 4 + j) v (acts_get hlt j v hv)
          rw [← Nat.add_assoc] at h1
          exact (hbw1.cell (p := ⟨bs, offs + i * 4 + j, none⟩) hbs).trans h1
        obtain ⟨bf, offf, Ax, cx, rfl, hbf, hcF, hcx, hrx⟩ := HRF.out.at_ (k := i) (by omega)
        have hsx : fronts[i].length ≤ maxLen := HSF.out _ (List.getElem_mem _)
        obtain ⟨fr, hfr⟩ : ∃ fr, fr = fronts[i] := ⟨_, rfl⟩
        rw [← hfr] at hcF hcx hrx hsx
        have HI1 := hid hI1
        have HBW1 := hid hbw1
        have HAO := hid hao
        have HCF := hid hcF
        have HRX := hid hrx
        have HSX := hid hsx
        clear hI1 hbw1 hao hcF hrx hsx ha hfr hcs0 HI HBW hx_ hbs
        go_wp2_with (first
          | ((with_reducible refine wpAtC ?_); refine wpList_load_agg rfl _ _ rfl bs (offs + i * 4) rfl a.cells (aggAct a) hcA ?_; simp only [Act.put, List.setIfInBounds_toArray, List.set_cons_succ, List.set_cons_zero])
          | ((with_reducible refine wpAtC ?_); refine wpList_alloc rfl _ rfl zeroAct ?_; intro gA w5 hgA hgA' hzA hb5; simp only [Act.put, List.setIfInBounds_toArray, List.set_cons_succ, List.set_cons_zero])
          | ((with_reducible refine wpAtC ?_); refine wpList_store_agg rfl _ _ _ rfl _ _ rfl a.cells.toArray rfl (aggActS a) hzA (szAct a) (oneAct a) ?_; intro w6 hp6; simp only [Act.put]; rw [splAct a] at hp6; have hA6 := hp6.blk; have c2 : w6.cell? ⟨gA, 2, none⟩ = some (.slice a.Ar a.rows.length a.cr) := hA6.cell 2))
        have hb6 : Below wa.heap.size wa w6 := hb5.trans (hp6.below hgA)
        have hI6 := HI1.out.below' hb6
        have hbw6 := bx_trans HBW1.out hb6
        have c3 : w6.cell? ⟨gA, 3, none⟩ = some (.slice a.Ab a.bytes.length a.cb) := hA6.cell 3
        have lgA : gA < w6.heap.size := hA6.lt
        have hgA0 : w0.heap.size ≤ gA := Nat.le_trans HI1.out.below.size hgA
        have hao6 := HAO.out.below hbw6
        have HAO6 := hid hao6
        have HI6 := hid hI6
        have HBW6 := hid hbw6
        have HA6 := hid hA6
        have hcF6 := (hbw6.cell (p := ⟨bf, offf + i, none⟩) hbf).trans HCF.out
        have lbf : bf < w6.heap.size := Nat.lt_of_lt_of_le hbf hbw6.size
        have hi1 : (i : Int) < (fronts.length : Int) := by omega
        clear hI6 hbw6 hao6 hA6 hp6 hb6 hb5 hzA hcA HI1 HBW1 HAO hgA' hgA c2
        refine (few_any w6 HAO6.out.r HAO6.out.rc HAO6.out.rm).mono ?_
        rintro e w6' ⟨rfl, rfl⟩
        obtain ⟨F, hF⟩ : ∃ F, F = fewB a.rows := ⟨_, rfl⟩
        rw [← hF]
        have HF := hid hF
        clear hF
        cases F with
        | false =>
          go_wp2_with fail
          refine wp_hold (wp_region_lit ?_)
          refine wp_flowSE [0, 1, 3, 7, 15, 31, 63, 127, 255, 511, 1023, 2047, 4095, 8191, 16383, 32767] 16 [false, false, false, false, false, false, false, false, false, false, false, false, false, false, false, false, false, false, false, false, false, false, false, false, false, false, false, false, false, false, false, false, false, false, false, false, false, false, false, false, false, false, false, false, false, false, false, false, false, false, false, false, false, false, false, true, true, true, true, true, true, true, true, true, true, true, true, true, true, true, true] (by kernel_rfl) (by kernel_rfl) (by kernel_rfl) [FP.eq (.bool false), FP.eq (.bool true), FP.eq (.bool true), FP.any, FP.any, FP.any, FP.any, FP.eq (.bool true), FP.eq (.bool true), FP.any, FP.any, FP.any, FP.any, FP.any, FP.any, FP.eq (.bool true)] ?_ ?_
          · refine allFrom_cons ?_ ?_
            · intro a_ w_ hk_
              have h14 : a_.eval (.tmp 14) = .bool false := hk_.old 14 (by kernel_rfl)
              have hx_ := hk_.ext
              clear hk_
              refine flow_plain rfl ?_
              exact gives_move rfl ⟨Below.refl _ _, h14⟩
            refine allFrom_cons ?_ ?_
            · intro a_ w_ hk_
              have h55 : a_.eval (.tmp 55) = (.bool false) := hk_.got 0 55 _ (by kernel_rfl) rfl rfl
              have hx_ := hk_.ext
              clear hk_
              refine flow_plain rfl ?_
              unfold gives
              have hc_ : ∀ v, a_.eval (.const v) = v := fun _ => rfl
              have hn_ : ∀ f, a_.eval (.func f) = .func (.func f) #[] #[] := fun _ => rfl
              generalize a_.eval = ρ_ at *
              go_simp
              exact ⟨Below.refl _ _, rfl⟩
            refine allFrom_cons ?_ ?_
            · intro a_ w_ hk_
              have h56 : a_.eval (.tmp 56) = (.bool true) := hk_.got 1 56 _ (by kernel_rfl) rfl rfl
              have hx_ := hk_.ext
              clear hk_
              refine flow_plain rfl ?_
              exact gives_move rfl ⟨Below.refl _ _, h56⟩
            refine allFrom_cons ?_ ?_
            · intro a_ w_ hk_
              have h13 : a_.eval (.tmp 13) = .pointer (some ⟨gA, 0, none⟩) := hk_.old 13 (by kernel_rfl)
              have hg_ : a_.eval (.tmp 57) = .bool true := hk_.got 2 57 _ (by kernel_rfl) rfl rfl
              have hy_ := hk_.want 2 _ 57 true rfl rfl hg_
              have hx_ := hk_.ext
              clear hk_
              exact flow_skip rfl hy_ (by decide) trivial
            refine allFrom_cons ?_ ?_
            · intro a_ w_ hk_
              have hg_ : a_.eval (.tmp 57) = .bool true := hk_.got 2 57 _ (by kernel_rfl) rfl rfl
              have hy_ := hk_.want 2 _ 57 true rfl rfl hg_
              have hx_ := hk_.ext
              clear hk_
              exact flow_skip rfl hy_ (by decide) trivial
            refine allFrom_cons ?_ ?_
            · intro a_ w_ hk_
              have hg_ : a_.eval (.tmp 57) = .bool true := hk_.got 2 57 _ (by kernel_rfl) rfl rfl
              have hy_ := hk_.want 2 _ 57 true rfl rfl hg_
              have hx_ := hk_.ext
              clear hk_
              exact flow_skip rfl hy_ (by decide) trivial
            refine allFrom_cons ?_ ?_
            · intro a_ w_ hk_
              have hg_ : a_.eval (.tmp 57) = .bool true := hk_.got 2 57 _ (by kernel_rfl) rfl rfl
              have hy_ := hk_.want 2 _ 57 true rfl rfl hg_
              have hx_ := hk_.ext
              clear hk_
              exact flow_skip rfl hy_ (by decide) trivial
            refine allFrom_cons ?_ ?_
            · intro a_ w_ hk_
              have h57 : a_.eval (.tmp 57) = (.bool true) := hk_.got 2 57 _ (by kernel_rfl) rfl rfl
              have hx_ := hk_.ext
              clear hk_
              refine flow_plain rfl ?_
              exact gives_pick rfl h57 ⟨Below.refl _ _, rfl⟩
            refine allFrom_cons ?_ ?_
            · intro a_ w_ hk_
              have h62 : a_.eval (.tmp 62) = (.bool true) := hk_.got 7 62 _ (by kernel_rfl) rfl rfl
              have hx_ := hk_.ext
              clear hk_
              refine flow_plain rfl ?_
              exact gives_move rfl ⟨Below.refl _ _, h62⟩
            refine allFrom_cons ?_ ?_
            · intro a_ w_ hk_
              have h1 : a_.eval (.tmp 1) = .slice (some ⟨bf, offf, none⟩) fronts.length cf := hk_.old 1 (by kernel_rfl)
              have hg_ : a_.eval (.tmp 63) = .bool true := hk_.got 8 63 _ (by kernel_rfl) rfl rfl
              have hy_ := hk_.want 8 _ 63 true rfl rfl hg_
              have hx_ := hk_.ext
              clear hk_
              exact flow_skip rfl hy_ (by decide) trivial
            refine allFrom_cons ?_ ?_
            · intro a_ w_ hk_
              have h12 : a_.eval (.tmp 12) = .int .i64 (i : Int) := hk_.old 12 (by kernel_rfl)
              have hg_ : a_.eval (.tmp 63) = .bool true := hk_.got 8 63 _ (by kernel_rfl) rfl rfl
              have hy_ := hk_.want 8 _ 63 true rfl rfl hg_
              have hx_ := hk_.ext
              clear hk_
              exact flow_skip rfl hy_ (by decide) trivial
            refine allFrom_cons ?_ ?_
            · intro a_ w_ hk_
              have hg_ : a_.eval (.tmp 63) = .bool true := hk_.got 8 63 _ (by kernel_rfl) rfl rfl
              have hy_ := hk_.want 8 _ 63 true rfl rfl hg_
              have hx_ := hk_.ext
              clear hk_
              exact flow_skip rfl hy_ (by decide) trivial
            refine allFrom_cons ?_ ?_
            · intro a_ w_ hk_
              have hg_ : a_.eval (.tmp 63) = .bool true := hk_.got 8 63 _ (by kernel_rfl) rfl rfl
              have hy_ := hk_.want 8 _ 63 true rfl rfl hg_
              have hx_ := hk_.ext
              clear hk_
              exact flow_skip rfl hy_ (by decide) trivial
            refine allFrom_cons ?_ ?_
            · intro a_ w_ hk_
              have hg_ : a_.eval (.tmp 63) = .bool true := hk_.got 8 63 _ (by kernel_rfl) rfl rfl
              have hy_ := hk_.want 8 _ 63 true rfl rfl hg_
              have hx_ := hk_.ext
              clear hk_
              exact flow_skip rfl hy_ (by decide) trivial
            refine allFrom_cons ?_ ?_
            · intro a_ w_ hk_
              have hg_ : a_.eval (.tmp 63) = .bool true := hk_.got 8 63 _ (by kernel_rfl) rfl rfl
              have hy_ := hk_.want 8 _ 63 true rfl rfl hg_
              have hx_ := hk_.ext
              clear hk_
              exact flow_skip rfl hy_ (by decide) trivial
            refine allFrom_cons ?_ ?_
            · intro a_ w_ hk_
              have h63 : a_.eval (.tmp 63) = (.bool true) := hk_.got 8 63 _ (by kernel_rfl) rfl rfl
              have hx_ := hk_.ext
              clear hk_
              refine flow_plain rfl ?_
              exact gives_pick rfl h63 ⟨Below.refl _ _, rfl⟩
            exact allFrom_nil
          intro f_ w_ hx_ hf_
          have h55 : f_ 55 = (.bool false) := hf_ 0 55 _ (by decide) rfl rfl
          have h56 : f_ 56 = (.bool true) := hf_ 1 56 _ (by decide) rfl rfl
          have h57 : f_ 57 = (.bool true) := hf_ 2 57 _ (by decide) rfl rfl
          have h62 : f_ 62 = (.bool true) := hf_ 7 62 _ (by decide) rfl rfl
          have h63 : f_ 63 = (.bool true) := hf_ 8 63 _ (by decide) rfl rfl
          have h70 : f_ 70 = (.bool true) := hf_ 15 70 _ (by decide) rfl rfl
          simp only [mix, h55, h56, h57, h62, h63, h70]
          clear h55 h56 h57 h62 h63 h70
          clear hf_
          go_wp2_with fail
          exact bodyPost_ret (results_tmp rfl _ _ _) rfl ⟨rfl, bx_trans HBW6.out hx_⟩
        | true =>
          by_cases h600 : 600 < a.bytes.length
          · have h600i : (600 : Int) < (a.bytes.length : Int) := by omega
            go_wp2_with fail
            refine wp_hold (wp_region_lit ?_)
            refine wp_flowSE [0, 1, 3, 7, 15, 31, 63, 127, 255, 511, 1023, 2047, 4095, 8191, 16383, 32767] 16 [false, false, false, false, false, false, false, false, false, false, false, false, false, false, false, false, false, false, false, false, false, false, false, false, false, false, false, false, false, false, false, false, false, false, false, false, false, false, false, false, false, false, false, false, false, false, false, false, false, false, false, false, false, false, false, true, true, true, true, true, true, true, true, true, true, true, true, true, true, true, true] (by kernel_rfl) (by kernel_rfl) (by kernel_rfl) [FP.eq (.bool true), FP.eq (.bool false), FP.eq (.bool false), FP.eq (.pointer (some ⟨gA, 3, none⟩)), FP.eq (.slice a.Ab a.bytes.length a.cb), FP.eq (.int .i64 (a.bytes.length : Int)), FP.eq (.bool true), FP.eq (.bool true), FP.eq (.bool true), FP.any, FP.any, FP.any, FP.any, FP.any, FP.any, FP.eq (.bool true)] ?_ ?_
            · refine allFrom_cons ?_ ?_
              · intro a_ w_ hk_
                have h14 : a_.eval (.tmp 14) = .bool true := hk_.old 14 (by kernel_rfl)
                have hx_ := hk_.ext
                clear hk_
                refine flow_plain rfl ?_
                exact gives_move rfl ⟨Below.refl _ _, h14⟩
              refine allFrom_cons ?_ ?_
              · intro a_ w_ hk_
                have h55 : a_.eval (.tmp 55) = (.bool true) := hk_.got 0 55 _ (by kernel_rfl) rfl rfl
                have hx_ := hk_.ext
                clear hk_
                refine flow_plain rfl ?_
                unfold gives
                have hc_ : ∀ v, a_.eval (.const v) = v := fun _ => rfl
                have hn_ : ∀ f, a_.eval (.func f) = .func (.func f) #[] #[] := fun _ => rfl
                generalize a_.eval = ρ_ at *
                go_simp
                exact ⟨Below.refl _ _, rfl⟩
              refine allFrom_cons ?_ ?_
              · intro a_ w_ hk_
                have h56 : a_.eval (.tmp 56) = (.bool false) := hk_.got 1 56 _ (by kernel_rfl) rfl rfl
                have hx_ := hk_.ext
                clear hk_
                refine flow_plain rfl ?_
                exact gives_move rfl ⟨Below.refl _ _, h56⟩
              refine allFrom_cons ?_ ?_
              · intro a_ w_ hk_
                have h13 : a_.eval (.tmp 13) = .pointer (some ⟨gA, 0, none⟩) := hk_.old 13 (by kernel_rfl)
                have hg_ : a_.eval (.tmp 57) = .bool false := hk_.got 2 57 _ (by kernel_rfl) rfl rfl
                have hy_ := hk_.want 2 _ 57 false rfl rfl hg_
                have hx_ := hk_.ext
                clear hk_
                refine flow_want rfl hy_ ?_
                unfold gives
                have hc_ : ∀ v, a_.eval (.const v) = v := fun _ => rfl
                have hn_ : ∀ f, a_.eval (.func f) = .func (.func f) #[] #[] := fun _ => rfl
                clear hy_ hg_
                generalize a_.eval = ρ_ at *
                go_simp
                exact ⟨Below.refl _ _, rfl⟩
              refine allFrom_cons ?_ ?_
              · intro a_ w_ hk_
                have h58 : a_.eval (.tmp 58) = (.pointer (some ⟨gA, 3, none⟩)) := hk_.got 3 58 _ (by kernel_rfl) rfl rfl
                have hg_ : a_.eval (.tmp 57) = .bool false := hk_.got 2 57 _ (by kernel_rfl) rfl rfl
                have hy_ := hk_.want 2 _ 57 false rfl rfl hg_
                have hx_ := hk_.ext
                clear hk_
                refine flow_want rfl hy_ ?_
                unfold gives
                have hc_ : ∀ v, a_.eval (.const v) = v := fun _ => rfl
                have hn_ : ∀ f, a_.eval (.func f) = .func (.func f) #[] #[] := fun _ => rfl
                clear hy_ hg_
                have hcell := (hx_.cell (p := ⟨gA, 3, none⟩) lgA).trans c3
                generalize a_.eval = ρ_ at *
                go_simp
                exact ⟨Below.refl _ _, rfl⟩
              refine allFrom_cons ?_ ?_
              · intro a_ w_ hk_
                have h59 : a_.eval (.tmp 59) = (.slice a.Ab a.bytes.length a.cb) := hk_.got 4 59 _ (by kernel_rfl) rfl rfl
                have hg_ : a_.eval (.tmp 57) = .bool false := hk_.got 2 57 _ (by kernel_rfl) rfl rfl
                have hy_ := hk_.want 2 _ 57 false rfl rfl hg_
                have hx_ := hk_.ext
                clear hk_
                refine flow_want rfl hy_ ?_
                unfold gives
                have hc_ : ∀ v, a_.eval (.const v) = v := fun _ => rfl
                have hn_ : ∀ f, a_.eval (.func f) = .func (.func f) #[] #[] := fun _ => rfl
                clear hy_ hg_
                generalize a_.eval = ρ_ at *
                go_simp
                exact ⟨Below.refl _ _, rfl⟩
              refine allFrom_cons ?_ ?_
              · intro a_ w_ hk_
                have h60 : a_.eval (.tmp 60) = (.int .i64 (a.bytes.length : Int)) := hk_.got 5 60 _ (by kernel_rfl) rfl rfl
                have hg_ : a_.eval (.tmp 57) = .bool false := hk_.got 2 57 _ (by kernel_rfl) rfl rfl
                have hy_ := hk_.want 2 _ 57 false rfl rfl hg_
                have hx_ := hk_.ext
                clear hk_
                refine flow_want rfl hy_ ?_
                unfold gives
                have hc_ : ∀ v, a_.eval (.const v) = v := fun _ => rfl
                have hn_ : ∀ f, a_.eval (.func f) = .func (.func f) #[] #[] := fun _ => rfl
                clear hy_ hg_
                generalize a_.eval = ρ_ at *
                go_simp
                exact ⟨Below.refl _ _, rfl⟩
              refine allFrom_cons ?_ ?_
              · intro a_ w_ hk_
                have h57 : a_.eval (.tmp 57) = (.bool false) := hk_.got 2 57 _ (by kernel_rfl) rfl rfl
                have h61 : a_.eval (.tmp 61) = (.bool true) := hk_.got 6 61 _ (by kernel_rfl) rfl rfl
                have hx_ := hk_.ext
                clear hk_
                refine flow_plain rfl ?_
                exact gives_pick rfl h57 ⟨Below.refl _ _, h61⟩
              refine allFrom_cons ?_ ?_
              · intro a_ w_ hk_
                have h62 : a_.eval (.tmp 62) = (.bool true) := hk_.got 7 62 _ (by kernel_rfl) rfl rfl
                have hx_ := hk_.ext
                clear hk_
                refine flow_plain rfl ?_
                exact gives_move rfl ⟨Below.refl _ _, h62⟩
              refine allFrom_cons ?_ ?_
              · intro a_ w_ hk_
                have h1 : a_.eval (.tmp 1) = .slice (some ⟨bf, offf, none⟩) fronts.length cf := hk_.old 1 (by kernel_rfl)
                have hg_ : a_.eval (.tmp 63) = .bool true := hk_.got 8 63 _ (by kernel_rfl) rfl rfl
                have hy_ := hk_.want 8 _ 63 true rfl rfl hg_
                have hx_ := hk_.ext
                clear hk_
                exact flow_skip rfl hy_ (by decide) trivial
              refine allFrom_cons ?_ ?_
              · intro a_ w_ hk_
                have h12 : a_.eval (.tmp 12) = .int .i64 (i : Int) := hk_.old 12 (by kernel_rfl)
                have hg_ : a_.eval (.tmp 63) = .bool true := hk_.got 8 63 _ (by kernel_rfl) rfl rfl
                have hy_ := hk_.want 8 _ 63 true rfl rfl hg_
                have hx_ := hk_.ext
                clear hk_
                exact flow_skip rfl hy_ (by decide) trivial
              refine allFrom_cons ?_ ?_
              · intro a_ w_ hk_
                have hg_ : a_.eval (.tmp 63) = .bool true := hk_.got 8 63 _ (by kernel_rfl) rfl rfl
                have hy_ := hk_.want 8 _ 63 true rfl rfl hg_
                have hx_ := hk_.ext
                clear hk_
                exact flow_skip rfl hy_ (by decide) trivial
              refine allFrom_cons ?_ ?_
              · intro a_ w_ hk_
                have hg_ : a_.eval (.tmp 63) = .bool true := hk_.got 8 63 _ (by kernel_rfl) rfl rfl
                have hy_ := hk_.want 8 _ 63 true rfl rfl hg_
                have hx_ := hk_.ext
                clear hk_
                exact flow_skip rfl hy_ (by decide) trivial
              refine allFrom_cons ?_ ?_
              · intro a_ w_ hk_
                have hg_ : a_.eval (.tmp 63) = .bool true := hk_.got 8 63 _ (by kernel_rfl) rfl rfl
                have hy_ := hk_.want 8 _ 63 true rfl rfl hg_
                have hx_ := hk_.ext
                clear hk_
                exact flow_skip rfl hy_ (by decide) trivial
              refine allFrom_cons ?_ ?_
              · intro a_ w_ hk_
                have hg_ : a_.eval (.tmp 63) = .bool true := hk_.got 8 63 _ (by kernel_rfl) rfl rfl
                have hy_ := hk_.want 8 _ 63 true rfl rfl hg_
                have hx_ := hk_.ext
                clear hk_
                exact flow_skip rfl hy_ (by decide) trivial
              refine allFrom_cons ?_ ?_
              · intro a_ w_ hk_
                have h63 : a_.eval (.tmp 63) = (.bool true) := hk_.got 8 63 _ (by kernel_rfl) rfl rfl
                have hx_ := hk_.ext
                clear hk_
                refine flow_plain rfl ?_
                exact gives_pick rfl h63 ⟨Below.refl _ _, rfl⟩
              exact allFrom_nil
            intro f_ w_ hx_ hf_
            have h55 : f_ 55 = (.bool true) := hf_ 0 55 _ (by decide) rfl rfl
            have h56 : f_ 56 = (.bool false) := hf_ 1 56 _ (by decide) rfl rfl
            have h57 : f_ 57 = (.bool false) := hf_ 2 57 _ (by decide) rfl rfl
            have h58 : f_ 58 = (.pointer (some ⟨gA, 3, none⟩)) := hf_ 3 58 _ (by decide) rfl rfl
            have h59 : f_ 59 = (.slice a.Ab a.bytes.length a.cb) := hf_ 4 59 _ (by decide) rfl rfl
            have h60 : f_ 60 = (.int .i64 (a.bytes.length : Int)) := hf_ 5 60 _ (by decide) rfl rfl
            have h61 : f_ 61 = (.bool true) := hf_ 6 61 _ (by decide) rfl rfl
            have h62 : f_ 62 = (.bool true) := hf_ 7 62 _ (by decide) rfl rfl
            have h63 : f_ 63 = (.bool true) := hf_ 8 63 _ (by decide) rfl rfl
            have h70 : f_ 70 = (.bool true) := hf_ 15 70 _ (by decide) rfl rfl
            simp only [mix, h55, h56, h57, h58, h59, h60, h61, h62, h63, h70]
            clear h55 h56 h57 h58 h59 h60 h61 h62 h63 h70
            clear hf_
            go_wp2_with fail
            exact bodyPost_ret (results_tmp rfl _ _ _) rfl ⟨rfl, bx_trans HBW6.out hx_⟩
          have h600i : ¬ (600 : Int) < (a.bytes.length : Int) := by omega
          by_cases h30 : 30 < fr.length
          · have h30i : (30 : Int) < (fr.length : Int) := by omega
            go_wp2_with fail
            refine wp_hold (wp_region_lit ?_)
            refine wp_flowSE [0, 1, 3, 7, 15, 31, 63, 127, 255, 511, 1023, 2047, 4095, 8191, 16383, 32767] 16 [false, false, false, false, false, false, false, false, false, false, false, false, false, false, false, false, false, false, false, false, false, false, false, false, false, false, false, false, false, false, false, false, false, false, false, false, false, false, false, false, false, false, false, false, false, false, false, false, false, false, false, false, false, false, false, true, true, true, true, true, true, true, true, true, true, true, true, true, true, true, true] (by kernel_rfl) (by kernel_rfl) (by kernel_rfl) [FP.eq (.bool true), FP.eq (.bool false), FP.eq (.bool false), FP.eq (.pointer (some ⟨gA, 3, none⟩)), FP.eq (.slice a.Ab a.bytes.length a.cb), FP.eq (.int .i64 (a.bytes.length : Int)), FP.eq (.bool false), FP.eq (.bool false), FP.eq (.bool false), FP.eq (.slice (some ⟨bf, offf, none⟩) fronts.length cf), FP.eq (.int .i64 (i : Int)), FP.eq (.pointer (some ⟨bf, offf + i, none⟩)), FP.eq (.slice Ax fr.length cx), FP.eq (.int .i64 (fr.length : Int)), FP.eq (.bool true), FP.eq (.bool true)] ?_ ?_
            · refine allFrom_cons ?_ ?_
              · intro a_ w_ hk_
                have h14 : a_.eval (.tmp 14) = .bool true := hk_.old 14 (by kernel_rfl)
                have hx_ := hk_.ext
                clear hk_
                refine flow_plain rfl ?_
                exact gives_move rfl ⟨Below.refl _ _, h14⟩
              refine allFrom_cons ?_ ?_
              · intro a_ w_ hk_
                have h55 : a_.eval (.tmp 55) = (.bool true) := hk_.got 0 55 _ (by kernel_rfl) rfl rfl
                have hx_ := hk_.ext
                clear hk_
                refine flow_plain rfl ?_
                unfold gives
                have hc_ : ∀ v, a_.eval (.const v) = v := fun _ => rfl
                have hn_ : ∀ f, a_.eval (.func f) = .func (.func f) #[] #[] := fun _ => rfl
                generalize a_.eval = ρ_ at *
                go_simp
                exact ⟨Below.refl _ _, rfl⟩
              refine allFrom_cons ?_ ?_
              · intro a_ w_ hk_
                have h56 : a_.eval (.tmp 56) = (.bool false) := hk_.got 1 56 _ (by kernel_rfl) rfl rfl
                have hx_ := hk_.ext
                clear hk_
                refine flow_plain rfl ?_
                exact gives_move rfl ⟨Below.refl _ _, h56⟩
              refine allFrom_cons ?_ ?_
              · intro a_ w_ hk_
                have h13 : a_.eval (.tmp 13) = .pointer (some ⟨gA, 0, none⟩) := hk_.old 13 (by kernel_rfl)
                have hg_ : a_.eval (.tmp 57) = .bool false := hk_.got 2 57 _ (by kernel_rfl) rfl rfl
                have hy_ := hk_.want 2 _ 57 false rfl rfl hg_
                have hx_ := hk_.ext
                clear hk_
                refine flow_want rfl hy_ ?_
                unfold gives
                have hc_ : ∀ v, a_.eval (.const v) = v := fun _ => rfl
                have hn_ : ∀ f, a_.eval (.func f) = .func (.func f) #[] #[] := fun _ => rfl
                clear hy_ hg_
                generalize a_.eval = ρ_ at *
                go_simp
                exact ⟨Below.refl _ _, rfl⟩
              refine allFrom_cons ?_ ?_
              · intro a_ w_ hk_
                have h58 : a_.eval (.tmp 58) = (.pointer (some ⟨gA, 3, none⟩)) := hk_.got 3 58 _ (by kernel_rfl) rfl rfl
                have hg_ : a_.eval (.tmp 57) = .bool false := hk_.got 2 57 _ (by kernel_rfl) rfl rfl
                have hy_ := hk_.want 2 _ 57 false rfl rfl hg_
                have hx_ := hk_.ext
                clear hk_
                refine flow_want rfl hy_ ?_
                unfold gives
                have hc_ : ∀ v, a_.eval (.const v) = v := fun _ => rfl
                have hn_ : ∀ f, a_.eval (.func f) = .func (.func f) #[] #[] := fun _ => rfl
                clear hy_ hg_
                have hcell := (hx_.cell (p := ⟨gA, 3, none⟩) lgA).trans c3
                generalize a_.eval = ρ_ at *
                go_simp
                exact ⟨Below.refl _ _, rfl⟩
              refine allFrom_cons ?_ ?_
              · intro a_ w_ hk_
                have h59 : a_.eval (.tmp 59) = (.slice a.Ab a.bytes.length a.cb) := hk_.got 4 59 _ (by kernel_rfl) rfl rfl
                have hg_ : a_.eval (.tmp 57) = .bool false := hk_.got 2 57 _ (by kernel_rfl) rfl rfl
                have hy_ := hk_.want 2 _ 57 false rfl rfl hg_
                have hx_ := hk_.ext
                clear hk_
                refine flow_want rfl hy_ ?_
                unfold gives
                have hc_ : ∀ v, a_.eval (.const v) = v := fun _ => rfl
                have hn_ : ∀ f, a_.eval (.func f) = .func (.func f) #[] #[] := fun _ => rfl
                clear hy_ hg_
                generalize a_.eval = ρ_ at *
                go_simp
                exact ⟨Below.refl _ _, rfl⟩
              refine allFrom_cons ?_ ?_
              · intro a_ w_ hk_
                have h60 : a_.eval (.tmp 60) = (.int .i64 (a.bytes.length : Int)) := hk_.got 5 60 _ (by kernel_rfl) rfl rfl
                have hg_ : a_.eval (.tmp 57) = .bool false := hk_.got 2 57 _ (by kernel_rfl) rfl rfl
                have hy_ := hk_.want 2 _ 57 false rfl rfl hg_
                have hx_ := hk_.ext
                clear hk_
                refine flow_want rfl hy_ ?_
                unfold gives
                have hc_ : ∀ v, a_.eval (.const v) = v := fun _ => rfl
                have hn_ : ∀ f, a_.eval (.func f) = .func (.func f) #[] #[] := fun _ => rfl
                clear hy_ hg_
                generalize a_.eval = ρ_ at *
                go_simp
                exact ⟨Below.refl _ _, congrArg Value.bool (decide_eq_false (by omega))⟩
              refine allFrom_cons ?_ ?_
              · intro a_ w_ hk_
                have h57 : a_.eval (.tmp 57) = (.bool false) := hk_.got 2 57 _ (by kernel_rfl) rfl rfl
                have h61 : a_.eval (.tmp 61) = (.bool false) := hk_.got 6 61 _ (by kernel_rfl) rfl rfl
                have hx_ := hk_.ext
                clear hk_
                refine flow_plain rfl ?_
                exact gives_pick rfl h57 ⟨Below.refl _ _, h61⟩
              refine allFrom_cons ?_ ?_
              · intro a_ w_ hk_
                have h62 : a_.eval (.tmp 62) = (.bool false) := hk_.got 7 62 _ (by kernel_rfl) rfl rfl
                have hx_ := hk_.ext
                clear hk_
                refine flow_plain rfl ?_
                exact gives_move rfl ⟨Below.refl _ _, h62⟩
              refine allFrom_cons ?_ ?_
              · intro a_ w_ hk_
                have h1 : a_.eval (.tmp 1) = .slice (some ⟨bf, offf, none⟩) fronts.length cf := hk_.old 1 (by kernel_rfl)
                have hg_ : a_.eval (.tmp 63) = .bool false := hk_.got 8 63 _ (by kernel_rfl) rfl rfl
                have hy_ := hk_.want 8 _ 63 false rfl rfl hg_
                have hx_ := hk_.ext
                clear hk_
                refine flow_want rfl hy_ ?_
                exact gives_move rfl ⟨Below.refl _ _, h1⟩
              refine allFrom_cons ?_ ?_
              · intro a_ w_ hk_
                have h12 : a_.eval (.tmp 12) = .int .i64 (i : Int) := hk_.old 12 (by kernel_rfl)
                have hg_ : a_.eval (.tmp 63) = .bool false := hk_.got 8 63 _ (by kernel_rfl) rfl rfl
                have hy_ := hk_.want 8 _ 63 false rfl rfl hg_
                have hx_ := hk_.ext
                clear hk_
                refine flow_want rfl hy_ ?_
                exact gives_move rfl ⟨Below.refl _ _, h12⟩
              refine allFrom_cons ?_ ?_
              · intro a_ w_ hk_
                have h64 : a_.eval (.tmp 64) = (.slice (some ⟨bf, offf, none⟩) fronts.length cf) := hk_.got 9 64 _ (by kernel_rfl) rfl rfl
                have h65 : a_.eval (.tmp 65) = (.int .i64 (i : Int)) := hk_.got 10 65 _ (by kernel_rfl) rfl rfl
                have hg_ : a_.eval (.tmp 63) = .bool false := hk_.got 8 63 _ (by kernel_rfl) rfl rfl
                have hy_ := hk_.want 8 _ 63 false rfl rfl hg_
                have hx_ := hk_.ext
                clear hk_
                refine flow_want rfl hy_ ?_
                unfold gives
                have hc_ : ∀ v, a_.eval (.const v) = v := fun _ => rfl
                have hn_ : ∀ f, a_.eval (.func f) = .func (.func f) #[] #[] := fun _ => rfl
                clear hy_ hg_
                generalize a_.eval = ρ_ at *
                go_simp
                exact ⟨Below.refl _ _, rfl⟩
              refine allFrom_cons ?_ ?_
              · intro a_ w_ hk_
                have h66 : a_.eval (.tmp 66) = (.pointer (some ⟨bf, offf + i, none⟩)) := hk_.got 11 66 _ (by kernel_rfl) rfl rfl
                have hg_ : a_.eval (.tmp 63) = .bool false := hk_.got 8 63 _ (by kernel_rfl) rfl rfl
                have hy_ := hk_.want 8 _ 63 false rfl rfl hg_
                have hx_ := hk_.ext
                clear hk_
                refine flow_want rfl hy_ ?_
                unfold gives
                have hc_ : ∀ v, a_.eval (.const v) = v := fun _ => rfl
                have hn_ : ∀ f, a_.eval (.func f) = .func (.func f) #[] #[] := fun _ => rfl
                clear hy_ hg_
                have hcell := (hx_.cell (p := ⟨bf, offf + i, none⟩) lbf).trans hcF6
                generalize a_.eval = ρ_ at *
                go_simp
                exact ⟨Below.refl _ _, rfl⟩
              refine allFrom_cons ?_ ?_
              · intro a_ w_ hk_
                have h67 : a_.eval (.tmp 67) = (.slice Ax fr.length cx) := hk_.got 12 67 _ (by kernel_rfl) rfl rfl
                have hg_ : a_.eval (.tmp 63) = .bool false := hk_.got 8 63 _ (by kernel_rfl) rfl rfl
                have hy_ := hk_.want 8 _ 63 false rfl rfl hg_
                have hx_ := hk_.ext
                clear hk_
                refine flow_want rfl hy_ ?_
                unfold gives
                have hc_ : ∀ v, a_.eval (.const v) = v := fun _ => rfl
                have hn_ : ∀ f, a_.eval (.func f) = .func (.func f) #[] #[] := fun _ => rfl
                clear hy_ hg_
                generalize a_.eval = ρ_ at *
                go_simp
                exact ⟨Below.refl _ _, rfl⟩
              refine allFrom_cons ?_ ?_
              · intro a_ w_ hk_
                have h68 : a_.eval (.tmp 68) = (.int .i64 (fr.length : Int)) := hk_.got 13 68 _ (by kernel_rfl) rfl rfl
                have hg_ : a_.eval (.tmp 63) = .bool false := hk_.got 8 63 _ (by kernel_rfl) rfl rfl
                have hy_ := hk_.want 8 _ 63 false rfl rfl hg_
                have hx_ := hk_.ext
                clear hk_
                refine flow_want rfl hy_ ?_
                unfold gives
                have hc_ : ∀ v, a_.eval (.const v) = v := fun _ => rfl
                have hn_ : ∀ f, a_.eval (.func f) = .func (.func f) #[] #[] := fun _ => rfl
                clear hy_ hg_
                generalize a_.eval = ρ_ at *
                go_simp
                exact ⟨Below.refl _ _, rfl⟩
              refine allFrom_cons ?_ ?_
              · intro a_ w_ hk_
                have h63 : a_.eval (.tmp 63) = (.bool false) := hk_.got 8 63 _ (by kernel_rfl) rfl rfl
                have h69 : a_.eval (.tmp 69) = (.bool true) := hk_.got 14 69 _ (by kernel_rfl) rfl rfl
                have hx_ := hk_.ext
                clear hk_
                refine flow_plain rfl ?_
                exact gives_pick rfl h63 ⟨Below.refl _ _, h69⟩
              exact allFrom_nil
            intro f_ w_ hx_ hf_
            have h55 : f_ 55 = (.bool true) := hf_ 0 55 _ (by decide) rfl rfl
            have h56 : f_ 56 = (.bool false) := hf_ 1 56 _ (by decide) rfl rfl
            have h57 : f_ 57 = (.bool false) := hf_ 2 57 _ (by decide) rfl rfl
            have h58 : f_ 58 = (.pointer (some ⟨gA, 3, none⟩)) := hf_ 3 58 _ (by decide) rfl rfl
            have h59 : f_ 59 = (.slice a.Ab a.bytes.length a.cb) := hf_ 4 59 _ (by decide) rfl rfl
            have h60 : f_ 60 = (.int .i64 (a.bytes.length : Int)) := hf_ 5 60 _ (by decide) rfl rfl
            have h61 : f_ 61 = (.bool false) := hf_ 6 61 _ (by decide) rfl rfl
            have h62 : f_ 62 = (.bool false) := hf_ 7 62 _ (by decide) rfl rfl
            have h63 : f_ 63 = (.bool false) := hf_ 8 63 _ (by decide) rfl rfl
            have h64 : f_ 64 = (.slice (some ⟨bf, offf, none⟩) fronts.length cf) := hf_ 9 64 _ (by decide) rfl rfl
            have h65 : f_ 65 = (.int .i64 (i : Int)) := hf_ 10 65 _ (by decide) rfl rfl
            have h66 : f_ 66 = (.pointer (some ⟨bf, offf + i, none⟩)) := hf_ 11 66 _ (by decide) rfl rfl
            have h67 : f_ 67 = (.slice Ax fr.length cx) := hf_ 12 67 _ (by decide) rfl rfl
            have h68 : f_ 68 = (.int .i64 (fr.length : Int)) := hf_ 13 68 _ (by decide) rfl rfl
            have h69 : f_ 69 = (.bool true) := hf_ 14 69 _ (by decide) rfl rfl
            have h70 : f_ 70 = (.bool true) := hf_ 15 70 _ (by decide) rfl rfl
            simp only [mix, h55, h56, h57, h58, h59, h60, h61, h62, h63, h64, h65, h66, h67, h68, h69, h70]
            clear h55 h56 h57 h58 h59 h60 h61 h62 h63 h64 h65 h66 h67 h68 h69 h70
            clear hf_
            go_wp2_with fail
            exact bodyPost_ret (results_tmp rfl _ _ _) rfl ⟨rfl, bx_trans HBW6.out hx_⟩
          have h30i : ¬ (30 : Int) < (fr.length : Int) := by omega
          go_wp2_with fail
          refine wp_hold (wp_region_lit ?_)
          refine wp_flowSE [0, 1, 3, 7, 15, 31, 63, 127, 255, 511, 1023, 2047, 4095, 8191, 16383, 32767] 16 [false, false, false, false, false, false, false, false, false, false, false, false, false, false, false, false, false, false, false, false, false, false, false, false, false, false, false, false, false, false, false, false, false, false, false, false, false, false, false, false, false, false, false, false, false, false, false, false, false, false, false, false, false, false, false, true, true, true, true, true, true, true, true, true, true, true, true, true, true, true, true] (by kernel_rfl) (by kernel_rfl) (by kernel_rfl) [FP.eq (.bool true), FP.eq (.bool false), FP.eq (.bool false), FP.eq (.pointer (some ⟨gA, 3, none⟩)), FP.eq (.slice a.Ab a.bytes.length a.cb), FP.eq (.int .i64 (a.bytes.length : Int)), FP.eq (.bool false), FP.eq (.bool false), FP.eq (.bool false), FP.eq (.slice (some ⟨bf, offf, none⟩) fronts.length cf), FP.eq (.int .i64 (i : Int)), FP.eq (.pointer (some ⟨bf, offf + i, none⟩)), FP.eq (.slice Ax fr.length cx), FP.eq (.int .i64 (fr.length : Int)), FP.eq (.bool false), FP.eq (.bool false)] ?_ ?_
          · refine allFrom_cons ?_ ?_
            · intro a_ w_ hk_
              have h14 : a_.eval (.tmp 14) = .bool true := hk_.old 14 (by kernel_rfl)
              have hx_ := hk_.ext
              clear hk_
              refine flow_plain rfl ?_
              exact gives_move rfl ⟨Below.refl _ _, h14⟩
            refine allFrom_cons ?_ ?_
            · intro a_ w_ hk_
              have h55 : a_.eval (.tmp 55) = (.bool true) := hk_.got 0 55 _ (by kernel_rfl) rfl rfl
              have hx_ := hk_.ext
              clear hk_
              refine flow_plain rfl ?_
              unfold gives
              have hc_ : ∀ v, a_.eval (.const v) = v := fun _ => rfl
              have hn_ : ∀ f, a_.eval (.func f) = .func (.func f) #[] #[] := fun _ => rfl
              generalize a_.eval = ρ_ at *
              go_simp
              exact ⟨Below.refl _ _, rfl⟩
            refine allFrom_cons ?_ ?_
            · intro a_ w_ hk_
              have h56 : a_.eval (.tmp 56) = (.bool false) := hk_.got 1 56 _ (by kernel_rfl) rfl rfl
              have hx_ := hk_.ext
              clear hk_
              refine flow_plain rfl ?_
              exact gives_move rfl ⟨Below.refl _ _, h56⟩
            refine allFrom_cons ?_ ?_
            · intro a_ w_ hk_
              have h13 : a_.eval (.tmp 13) = .pointer (some ⟨gA, 0, none⟩) := hk_.old 13 (by kernel_rfl)
              have hg_ : a_.eval (.tmp 57) = .bool false := hk_.got 2 57 _ (by kernel_rfl) rfl rfl
              have hy_ := hk_.want 2 _ 57 false rfl rfl hg_
              have hx_ := hk_.ext
              clear hk_
              refine flow_want rfl hy_ ?_
              unfold gives
              have hc_ : ∀ v, a_.eval (.const v) = v := fun _ => rfl
              have hn_ : ∀ f, a_.eval (.func f) = .func (.func f) #[] #[] := fun _ => rfl
              clear hy_ hg_
              generalize a_.eval = ρ_ at *
              go_simp
              exact ⟨Below.refl _ _, rfl⟩
            refine allFrom_cons ?_ ?_
            · intro a_ w_ hk_
              have h58 : a_.eval (.tmp 58) = (.pointer (some ⟨gA, 3, none⟩)) := hk_.got 3 58 _ (by kernel_rfl) rfl rfl
              have hg_ : a_.eval (.tmp 57) = .bool false := hk_.got 2 57 _ (by kernel_rfl) rfl rfl
              have hy_ := hk_.want 2 _ 57 false rfl rfl hg_
              have hx_ := hk_.ext
              clear hk_
              refine flow_want rfl hy_ ?_
              unfold gives
              have hc_ : ∀ v, a_.eval (.const v) = v := fun _ => rfl
              have hn_ : ∀ f, a_.eval (.func f) = .func (.func f) #[] #[] := fun _ => rfl
              clear hy_ hg_
              have hcell := (hx_.cell (p := ⟨gA, 3, none⟩) lgA).trans c3
              generalize a_.eval = ρ_ at *
              go_simp
              exact ⟨Below.refl _ _, rfl⟩
            refine allFrom_cons ?_ ?_
            · intro a_ w_ hk_
              have h59 : a_.eval (.tmp 59) = (.slice a.Ab a.bytes.length a.cb) := hk_.got 4 59 _ (by kernel_rfl) rfl rfl
              have hg_ : a_.eval (.tmp 57) = .bool false := hk_.got 2 57 _ (by kernel_rfl) rfl rfl
              have hy_ := hk_.want 2 _ 57 false rfl rfl hg_
              have hx_ := hk_.ext
              clear hk_
              refine flow_want rfl hy_ ?_
              unfold gives
              have hc_ : ∀ v, a_.eval (.const v) = v := fun _ => rfl
              have hn_ : ∀ f, a_.eval (.func f) = .func (.func f) #[] #[] := fun _ => rfl
              clear hy_ hg_
              generalize a_.eval = ρ_ at *
              go_simp
              exact ⟨Below.refl _ _, rfl⟩
            refine allFrom_cons ?_ ?_
            · intro a_ w_ hk_
              have h60 : a_.eval (.tmp 60) = (.int .i64 (a.bytes.length : Int)) := hk_.got 5 60 _ (by kernel_rfl) rfl rfl
              have hg_ : a_.eval (.tmp 57) = .bool false := hk_.got 2 57 _ (by kernel_rfl) rfl rfl
              have hy_ := hk_.want 2 _ 57 false rfl rfl hg_
              have hx_ := hk_.ext
              clear hk_
              refine flow_want rfl hy_ ?_
              unfold gives
              have hc_ : ∀ v, a_.eval (.const v) = v := fun _ => rfl
              have hn_ : ∀ f, a_.eval (.func f) = .func (.func f) #[] #[] := fun _ => rfl
              clear hy_ hg_
              generalize a_.eval = ρ_ at *
              go_simp
              exact ⟨Below.refl _ _, congrArg Value.bool (decide_eq_false (by omega))⟩
            refine allFrom_cons ?_ ?_
            · intro a_ w_ hk_
              have h57 : a_.eval (.tmp 57) = (.bool false) := hk_.got 2 57 _ (by kernel_rfl) rfl rfl
              have h61 : a_.eval (.tmp 61) = (.bool false) := hk_.got 6 61 _ (by kernel_rfl) rfl rfl
              have hx_ := hk_.ext
              clear hk_
              refine flow_plain rfl ?_
              exact gives_pick rfl h57 ⟨Below.refl _ _, h61⟩
            refine allFrom_cons ?_ ?_
            · intro a_ w_ hk_
              have h62 : a_.eval (.tmp 62) = (.bool false) := hk_.got 7 62 _ (by kernel_rfl) rfl rfl
              have hx_ := hk_.ext
              clear hk_
              refine flow_plain rfl ?_
              exact gives_move rfl ⟨Below.refl _ _, h62⟩
            refine allFrom_cons ?_ ?_
            · intro a_ w_ hk_
              have h1 : a_.eval (.tmp 1) = .slice (some ⟨bf, offf, none⟩) fronts.length cf := hk_.old 1 (by kernel_rfl)
              have hg_ : a_.eval (.tmp 63) = .bool false := hk_.got 8 63 _ (by kernel_rfl) rfl rfl
              have hy_ := hk_.want 8 _ 63 false rfl rfl hg_
              have hx_ := hk_.ext
              clear hk_
              refine flow_want rfl hy_ ?_
              exact gives_move rfl ⟨Below.refl _ _, h1⟩
            refine allFrom_cons ?_ ?_
            · intro a_ w_ hk_
              have h12 : a_.eval (.tmp 12) = .int .i64 (i : Int) := hk_.old 12 (by kernel_rfl)
              have hg_ : a_.eval (.tmp 63) = .bool false := hk_.got 8 63 _ (by kernel_rfl) rfl rfl
              have hy_ := hk_.want 8 _ 63 false rfl rfl hg_
              have hx_ := hk_.ext
              clear hk_
              refine flow_want rfl hy_ ?_
              exact gives_move rfl ⟨Below.refl _ _, h12⟩
            refine allFrom_cons ?_ ?_
            · intro a_ w_ hk_
              have h64 : a_.eval (.tmp 64) = (.slice (some ⟨bf, offf, none⟩) fronts.length cf) := hk_.got 9 64 _ (by kernel_rfl) rfl rfl
              have h65 : a_.eval (.tmp 65) = (.int .i64 (i : Int)) := hk_.got 10 65 _ (by kernel_rfl) rfl rfl
              have hg_ : a_.eval (.tmp 63) = .bool false := hk_.got 8 63 _ (by kernel_rfl) rfl rfl
              have hy_ := hk_.want 8 _ 63 false rfl rfl hg_
              have hx_ := hk_.ext
              clear hk_
              refine flow_want rfl hy_ ?_
              unfold gives
              have hc_ : ∀ v, a_.eval (.const v) = v := fun _ => rfl
              have hn_ : ∀ f, a_.eval (.func f) = .func (.func f) #[] #[] := fun _ => rfl
              clear hy_ hg_
              generalize a_.eval = ρ_ at *
              go_simp
              exact ⟨Below.refl _ _, rfl⟩
            refine allFrom_cons ?_ ?_
            · intro a_ w_ hk_
              have h66 : a_.eval (.tmp 66) = (.pointer (some ⟨bf, offf + i, none⟩)) := hk_.got 11 66 _ (by kernel_rfl) rfl rfl
              have hg_ : a_.eval (.tmp 63) = .bool false := hk_.got 8 63 _ (by kernel_rfl) rfl rfl
              have hy_ := hk_.want 8 _ 63 false rfl rfl hg_
              have hx_ := hk_.ext
              clear hk_
              refine flow_want rfl hy_ ?_
              unfold gives
              have hc_ : ∀ v, a_.eval (.const v) = v := fun _ => rfl
              have hn_ : ∀ f, a_.eval (.func f) = .func (.func f) #[] #[] := fun _ => rfl
              clear hy_ hg_
              have hcell := (hx_.cell (p := ⟨bf, offf + i, none⟩) lbf).trans hcF6
              generalize a_.eval = ρ_ at *
              go_simp
              exact ⟨Below.refl _ _, rfl⟩
            refine allFrom_cons ?_ ?_
            · intro a_ w_ hk_
              have h67 : a_.eval (.tmp 67) = (.slice Ax fr.length cx) := hk_.got 12 67 _ (by kernel_rfl) rfl rfl
              have hg_ : a_.eval (.tmp 63) = .bool false := hk_.got 8 63 _ (by kernel_rfl) rfl rfl
              have hy_ := hk_.want 8 _ 63 false rfl rfl hg_
              have hx_ := hk_.ext
              clear hk_
              refine flow_want rfl hy_ ?_
              unfold gives
              have hc_ : ∀ v, a_.eval (.const v) = v := fun _ => rfl
              have hn_ : ∀ f, a_.eval (.func f) = .func (.func f) #[] #[] := fun _ => rfl
              clear hy_ hg_
              generalize a_.eval = ρ_ at *
              go_simp
              exact ⟨Below.refl _ _, rfl⟩
            refine allFrom_cons ?_ ?_
            · intro a_ w_ hk_
              have h68 : a_.eval (.tmp 68) = (.int .i64 (fr.length : Int)) := hk_.got 13 68 _ (by kernel_rfl) rfl rfl
              have hg_ : a_.eval (.tmp 63) = .bool false := hk_.got 8 63 _ (by kernel_rfl) rfl rfl
              have hy_ := hk_.want 8 _ 63 false rfl rfl hg_
              have hx_ := hk_.ext
              clear hk_
              refine flow_want rfl hy_ ?_
              unfold gives
              have hc_ : ∀ v, a_.eval (.const v) = v := fun _ => rfl
              have hn_ : ∀ f, a_.eval (.func f) = .func (.func f) #[] #[] := fun _ => rfl
              clear hy_ hg_
              generalize a_.eval = ρ_ at *
              go_simp
              exact ⟨Below.refl _ _, congrArg Value.bool (decide_eq_false (by omega))⟩
            refine allFrom_cons ?_ ?_
            · intro a_ w_ hk_
              have h63 : a_.eval (.tmp 63) = (.bool false) := hk_.got 8 63 _ (by kernel_rfl) rfl rfl
              have h69 : a_.eval (.tmp 69) = (.bool false) := hk_.got 14 69 _ (by kernel_rfl) rfl rfl
              have hx_ := hk_.ext
              clear hk_
              refine flow_plain rfl ?_
              exact gives_pick rfl h63 ⟨Below.refl _ _, h69⟩
            exact allFrom_nil
          intro f_ w_ hx_ hf_
          have h55 : f_ 55 = (.bool true) := hf_ 0 55 _ (by decide) rfl rfl
          have h56 : f_ 56 = (.bool false) := hf_ 1 56 _ (by decide) rfl rfl
          have h57 : f_ 57 = (.bool false) := hf_ 2 57 _ (by decide) rfl rfl
          have h58 : f_ 58 = (.pointer (some ⟨gA, 3, none⟩)) := hf_ 3 58 _ (by decide) rfl rfl
          have h59 : f_ 59 = (.slice a.Ab a.bytes.length a.cb) := hf_ 4 59 _ (by decide) rfl rfl
          have h60 : f_ 60 = (.int .i64 (a.bytes.length : Int)) := hf_ 5 60 _ (by decide) rfl rfl
          have h61 : f_ 61 = (.bool false) := hf_ 6 61 _ (by decide) rfl rfl
          have h62 : f_ 62 = (.bool false) := hf_ 7 62 _ (by decide) rfl rfl
          have h63 : f_ 63 = (.bool false) := hf_ 8 63 _ (by decide) rfl rfl
          have h64 : f_ 64 = (.slice (some ⟨bf, offf, none⟩) fronts.length cf) := hf_ 9 64 _ (by decide) rfl rfl
          have h65 : f_ 65 = (.int .i64 (i : Int)) := hf_ 10 65 _ (by decide) rfl rfl
          have h66 : f_ 66 = (.pointer (some ⟨bf, offf + i, none⟩)) := hf_ 11 66 _ (by decide) rfl rfl
          have h67 : f_ 67 = (.slice Ax fr.length cx) := hf_ 12 67 _ (by decide) rfl rfl
          have h68 : f_ 68 = (.int .i64 (fr.length : Int)) := hf_ 13 68 _ (by decide) rfl rfl
          have h69 : f_ 69 = (.bool false) := hf_ 14 69 _ (by decide) rfl rfl
          have h70 : f_ 70 = (.bool false) := hf_ 15 70 _ (by decide) rfl rfl
          simp only [mix, h55, h56, h57, h58, h59, h60, h61, h62, h63, h64, h65, h66, h67, h68, h69, h70]
          clear h55 h56 h57 h58 h59 h60 h61 h62 h63 h64 h65 h66 h67 h68 h69 h70
          clear hf_
          obtain ⟨w7, hw7⟩ : ∃ w7, w7 = w_ := ⟨_, rfl⟩
          rw [← hw7] at hx_ ⊢
          clear hw7
          have HI7 := hid (HI6.out.below' hx_)
          have HBW7 := hid (bx_trans HBW6.out hx_)
          have HA7 := hid (HA6.out.below hx_ lgA)
          clear HI6 HBW6 HA6 HAO6 c3 hx_ hcF6 lgA h30i h600i hi1
          go_wp2_with fail
          refine wp_hold ?_
          refine wp_cut [false, false, false, false, false, false, false, false, false, false, false, false, false, false, false, false, false, false, false, false, false, false, false, false, false, false, false, false, false, false, false, false, false, false, false, false, false, false, false, false, false, false, false, false, false, false, false, false, false, false, false, false, false, false, false, false, false, false, false, false, false, false, false, false, false, false, false, false, false, false, false, false, true, true, true, true, true, true, true, true, true] (fun f wr => Blk wr gA tAct a.cells.toArray ∧ ∃ D, SureI w0 g gl' i D L rs u10 u11 wr) ?inside ?behind
          case inside =>
            intro KC HKC
            obtain ⟨x16, hx16⟩ : ∃ x, x = bits BinOp.and IntKind.i64 a.kind 16 := ⟨_, rfl⟩
            have hand16 := hx16.symm
            have c0 : w7.cell? ⟨gA, 0, none⟩ = some (.int .i64 a.kind) := HA7.out.cell 0
            have lgA := HA7.out.lt
            clear hx16
            by_cases h16 : x16 = 16
            · subst h16
              go_wp2_with fail
              refine wp_hold (wp_region_lit ?_)
              refine wp_flowSE [0, 1, 3, 7] 4 [false, false, false, false, false, false, false, false, false, false, false, false, false, false, false, false, false, false, false, false, false, false, false, false, false, false, false, false, false, false, false, false, false, false, false, false, false, false, false, false, false, false, false, false, false, false, false, false, false, false, false, false, false, false, false, false, false, false, false, false, false, false, false, false, false, false, false, false, false, false, false, false, true, true, true, true] (by kernel_rfl) (by kernel_rfl) (by kernel_rfl) [FP.eq (.pointer (some ⟨gA, 0, none⟩)), FP.eq (.int .i64 a.kind), FP.eq (.int .i64 16), FP.eq (.bool true)] ?_ ?_
              · refine allFrom_cons ?_ ?_
                · intro a_ w_ hk_
                  have h13 : a_.eval (.tmp 13) = .pointer (some ⟨gA, 0, none⟩) := hk_.old 13 (by kernel_rfl)
                  have hx_ := hk_.ext
                  clear hk_
                  refine flow_plain rfl ?_
                  unfold gives
                  have hc_ : ∀ v, a_.eval (.const v) = v := fun _ => rfl
                  have hn_ : ∀ f, a_.eval (.func f) = .func (.func f) #[] #[] := fun _ => rfl
                  generalize a_.eval = ρ_ at *
                  go_simp
                  exact ⟨Below.refl _ _, rfl⟩
                refine allFrom_cons ?_ ?_
                · intro a_ w_ hk_
                  have h72 : a_.eval (.tmp 72) = (.pointer (some ⟨gA, 0, none⟩)) := hk_.got 0 72 _ (by kernel_rfl) rfl rfl
                  have hx_ := hk_.ext
                  clear hk_
                  refine flow_plain rfl ?_
                  unfold gives
                  have hc_ : ∀ v, a_.eval (.const v) = v := fun _ => rfl
                  have hn_ : ∀ f, a_.eval (.func f) = .func (.func f) #[] #[] := fun _ => rfl
                  have hcell := (hx_.cell (p := ⟨gA, 0, none⟩) lgA).trans c0
                  generalize a_.eval = ρ_ at *
                  go_simp
                  exact ⟨Below.refl _ _, rfl⟩
                refine allFrom_cons ?_ ?_
                · intro a_ w_ hk_
                  have h73 : a_.eval (.tmp 73) = (.int .i64 a.kind) := hk_.got 1 73 _ (by kernel_rfl) rfl rfl
                  have hx_ := hk_.ext
                  clear hk_
                  refine flow_plain rfl ?_
                  unfold gives
                  have hc_ : ∀ v, a_.eval (.const v) = v := fun _ => rfl
                  have hn_ : ∀ f, a_.eval (.func f) = .func (.func f) #[] #[] := fun _ => rfl
                  generalize a_.eval = ρ_ at *
                  go_simp
                  exact ⟨Below.refl _ _, rfl⟩
                refine allFrom_cons ?_ ?_
                · intro a_ w_ hk_
                  have h74 : a_.eval (.tmp 74) = (.int .i64 16) := hk_.got 2 74 _ (by kernel_rfl) rfl rfl
                  have hx_ := hk_.ext
                  clear hk_
                  refine flow_plain rfl ?_
                  unfold gives
                  have hc_ : ∀ v, a_.eval (.const v) = v := fun _ => rfl
                  have hn_ : ∀ f, a_.eval (.func f) = .func (.func f) #[] #[] := fun _ => rfl
                  generalize a_.eval = ρ_ at *
                  go_simp
                  exact ⟨Below.refl _ _, rfl⟩
                exact allFrom_nil
              intro f_ w_ hx_ hf_
              have h72 : f_ 72 = (.pointer (some ⟨gA, 0, none⟩)) := hf_ 0 72 _ (by decide) rfl rfl
              have h73 : f_ 73 = (.int .i64 a.kind) := hf_ 1 73 _ (by decide) rfl rfl
              have h74 : f_ 74 = (.int .i64 16) := hf_ 2 74 _ (by decide) rfl rfl
              have h75 : f_ 75 = (.bool true) := hf_ 3 75 _ (by decide) rfl rfl
              simp only [mix, h72, h73, h74, h75]
              clear h72 h73 h74 h75
              clear hf_
              obtain ⟨w8, hw8⟩ : ∃ w8, w8 = w_ := ⟨_, rfl⟩
              rw [← hw8] at hx_ ⊢
              clear hw8
              have hI8 := HI7.out.below' hx_
              have hA8 := HA7.out.below hx_ lgA
              have c1 : w8.cell? ⟨gA, 1, none⟩ = some (.int .i64 a.num) := hA8.cell 1
              obtain ⟨n7, hn7, hand7⟩ := and7 a.num
              have HI8 := hid hI8
              have HA8 := hid hA8
              clear hI8 hA8 HI7 HA7 c0 hand16 hx_
              go_wp2_with fail
              refine (Fail_any w8 HI8.out.has.disk (n7 : Int) (by omega)).mono ?_
              rintro e w9 ⟨rfl, hd9, hf9⟩
              have hI9 := HI8.out.fail hd9 hf9
              have hA9 : Blk w9 gA tAct a.cells.toArray := hf9.keep gA _ _ _ HA8.out (by decide) (by decide)
              clear hd9 hf9
              have HI9 := hid hI9
              have HA9 := hid hA9
              clear hI9 hA9
              go_wp2_with fail
              refine cut_leaf HKC (by kernel_rfl) ?_
              exact ⟨HA9.out, _, HI9.out⟩
            · have e16 : (x16 == 16) = false := by simpa using h16
              go_wp2_with fail
              refine wp_hold (wp_region_lit ?_)
              refine wp_flowSE [0, 1, 3, 7] 4 [false, false, false, false, false, false, false, false, false, false, false, false, false, false, false, false, false, false, false, false, false, false, false, false, false, false, false, false, false, false, false, false, false, false, false, false, false, false, false, false, false, false, false, false, false, false, false, false, false, false, false, false, false, false, false, false, false, false, false, false, false, false, false, false, false, false, false, false, false, false, false, false, true, true, true, true] (by kernel_rfl) (by kernel_rfl) (by kernel_rfl) [FP.eq (.pointer (some ⟨gA, 0, none⟩)), FP.eq (.int .i64 a.kind), FP.eq (.int .i64 x16), FP.eq (.bool false)] ?_ ?_
              · refine allFrom_cons ?_ ?_
                · intro a_ w_ hk_
                  have h13 : a_.eval (.tmp 13) = .pointer (some ⟨gA, 0, none⟩) := hk_.old 13 (by kernel_rfl)
                  have hx_ := hk_.ext
                  clear hk_
                  refine flow_plain rfl ?_
                  unfold gives
                  have hc_ : ∀ v, a_.eval (.const v) = v := fun _ => rfl
                  have hn_ : ∀ f, a_.eval (.func f) = .func (.func f) #[] #[] := fun _ => rfl
                  generalize a_.eval = ρ_ at *
                  go_simp
                  exact ⟨Below.refl _ _, rfl⟩
                refine allFrom_cons ?_ ?_
                · intro a_ w_ hk_
                  have h72 : a_.eval (.tmp 72) = (.pointer (some ⟨gA, 0, none⟩)) := hk_.got 0 72 _ (by kernel_rfl) rfl rfl
                  have hx_ := hk_.ext
                  clear hk_
                  refine flow_plain rfl ?_
                  unfold gives
                  have hc_ : ∀ v, a_.eval (.const v) = v := fun _ => rfl
                  have hn_ : ∀ f, a_.eval (.func f) = .func (.func f) #[] #[] := fun _ => rfl
                  have hcell := (hx_.cell (p := ⟨gA, 0, none⟩) lgA).trans c0
                  generalize a_.eval = ρ_ at *
                  go_simp
                  exact ⟨Below.refl _ _, rfl⟩
                refine allFrom_cons ?_ ?_
                · intro a_ w_ hk_
                  have h73 : a_.eval (.tmp 73) = (.int .i64 a.kind) := hk_.got 1 73 _ (by kernel_rfl) rfl rfl
                  have hx_ := hk_.ext
                  clear hk_
                  refine flow_plain rfl ?_
                  unfold gives
                  have hc_ : ∀ v, a_.eval (.const v) = v := fun _ => rfl
                  have hn_ : ∀ f, a_.eval (.func f) = .func (.func f) #[] #[] := fun _ => rfl
                  generalize a_.eval = ρ_ at *
                  go_simp
                  exact ⟨Below.refl _ _, rfl⟩
                refine allFrom_cons ?_ ?_
                · intro a_ w_ hk_
                  have h74 : a_.eval (.tmp 74) = (.int .i64 x16) := hk_.got 2 74 _ (by kernel_rfl) rfl rfl
                  have hx_ := hk_.ext
                  clear hk_
                  refine flow_plain rfl ?_
                  unfold gives
                  have hc_ : ∀ v, a_.eval (.const v) = v := fun _ => rfl
                  have hn_ : ∀ f, a_.eval (.func f) = .func (.func f) #[] #[] := fun _ => rfl
                  generalize a_.eval = ρ_ at *
                  go_simp
                  exact ⟨Below.refl _ _, rfl⟩
                exact allFrom_nil
              intro f_ w_ hx_ hf_
              have h72 : f_ 72 = (.pointer (some ⟨gA, 0, none⟩)) := hf_ 0 72 _ (by decide) rfl rfl
              have h73 : f_ 73 = (.int .i64 a.kind) := hf_ 1 73 _ (by decide) rfl rfl
              have h74 : f_ 74 = (.int .i64 x16) := hf_ 2 74 _ (by decide) rfl rfl
              have h75 : f_ 75 = (.bool false) := hf_ 3 75 _ (by decide) rfl rfl
              simp only [mix, h72, h73, h74, h75]
              clear h72 h73 h74 h75
              clear hf_
              go_wp2_with fail
              refine cut_leaf HKC (by kernel_rfl) ?_
              exact ⟨HA7.out.below hx_ lgA, _, HI7.out.below' hx_⟩
          case behind =>
            intro fa w8 hrel
            simp only [mix]
            obtain ⟨hA8, D8, hI8⟩ := hrel
            clear HI7 HA7 HBW7
            have hbw8 := HB0.out.trans (hI8.below.mono hB0)
            obtain ⟨k7, hk7, hand7'⟩ := and7 a.kind
            obtain ⟨kk, hkk⟩ : ∃ kk : Int, kk = (k7 : Int) := ⟨_, rfl⟩
            rw [← hkk] at hand7'
            have hand7 := hand7'
            have hkk7 : kk = 0 ∨ kk = 1 ∨ kk = 2 ∨ kk = 3 ∨ kk = 4 ∨ kk = 5 ∨ kk = 6 ∨ kk = 7 := by omega
            have lgA := hA8.lt
            have c0 : w8.cell? ⟨gA, 0, none⟩ = some (.int .i64 a.kind) := hA8.cell 0
            have HA8 := hid hA8
            have HI8 := hid hI8
            have HBW8 := hid hbw8
            clear hA8 hI8 hbw8 hkk hk7 hand7'
            go_wp2_with fail
            refine wp_hold ?_
            refine wp_cut [false, false, false, false, false, false, false, false, false, false, true, true, false, false, false, true, true, false, false, false, false, false, false, false, false, false, false, false, false, false, false, false, false, false, false, false, false, false, false, false, false, false, false, false, false, false, false, false, false, false, false, false, false, false, false, false, false, false, false, false, false, false, false, false, false, false, false, false, false, false, false, false, false, false, false, false, false, false, false, false, false, true, true, true, true, true, true, true, true, true, true, true, true, true, true, true, true, true, true, true, true, true, true, true, true, true, true, true, true, true, true, true, true, true, true, true, true, true, true, true, true, true, true, true, true, true, true, true] (fun f wr => SwR w0 g gl' (i + 1) gA a kk (f 10) (f 11) (f 15) (f 16) wr) ?inside ?behind
            case inside =>
              intro KC HKC
              go_wp2_with fail
              refine wp_hold (wp_region_lit ?_)
              refine wp_flowSE [0, 1, 3] 3 [false, false, false, false, false, false, false, false, false, false, false, false, false, false, false, false, false, false, false, false, false, false, false, false, false, false, false, false, false, false, false, false, false, false, false, false, false, false, false, false, false, false, false, false, false, false, false, false, false, false, false, false, false, false, false, false, false, false, false, false, false, false, false, false, false, false, false, false, false, false, false, false, false, false, false, false, false, false, false, false, false, true, true, true] (by kernel_rfl) (by kernel_rfl) (by kernel_rfl) [FP.eq (.pointer (some ⟨gA, 0, none⟩)), FP.eq (.int .i64 a.kind), FP.eq (.int .i64 kk)] ?_ ?_
              · refine allFrom_cons ?_ ?_
                · intro a_ w_ hk_
                  have h13 : a_.eval (.tmp 13) = .pointer (some ⟨gA, 0, none⟩) := hk_.old 13 (by kernel_rfl)
                  have hx_ := hk_.ext
                  clear hk_
                  refine flow_plain rfl ?_
                  unfold gives
                  have hc_ : ∀ v, a_.eval (.const v) = v := fun _ => rfl
                  have hn_ : ∀ f, a_.eval (.func f) = .func (.func f) #[] #[] := fun _ => rfl
                  generalize a_.eval = ρ_ at *
                  go_simp
                  exact ⟨Below.refl _ _, rfl⟩
                refine allFrom_cons ?_ ?_
                · intro a_ w_ hk_
                  have h81 : a_.eval (.tmp 81) = (.pointer (some ⟨gA, 0, none⟩)) := hk_.got 0 81 _ (by kernel_rfl) rfl rfl
                  have hx_ := hk_.ext
                  clear hk_
                  refine flow_plain rfl ?_
                  unfold gives
                  have hc_ : ∀ v, a_.eval (.const v) = v := fun _ => rfl
                  have hn_ : ∀ f, a_.eval (.func f) = .func (.func f) #[] #[] := fun _ => rfl
                  have hcell := (hx_.cell (p := ⟨gA, 0, none⟩) lgA).trans c0
                  generalize a_.eval = ρ_ at *
                  go_simp
                  exact ⟨Below.refl _ _, rfl⟩
                refine allFrom_cons ?_ ?_
                · intro a_ w_ hk_
                  have h82 : a_.eval (.tmp 82) = (.int .i64 a.kind) := hk_.got 1 82 _ (by kernel_rfl) rfl rfl
                  have hx_ := hk_.ext
                  clear hk_
                  refine flow_plain rfl ?_
                  unfold gives
                  have hc_ : ∀ v, a_.eval (.const v) = v := fun _ => rfl
                  have hn_ : ∀ f, a_.eval (.func f) = .func (.func f) #[] #[] := fun _ => rfl
                  generalize a_.eval = ρ_ at *
                  go_simp
                  exact ⟨Below.refl _ _, rfl⟩
                exact allFrom_nil
              intro f_ w_ hx_ hf_
              have h81 : f_ 81 = (.pointer (some ⟨gA, 0, none⟩)) := hf_ 0 81 _ (by decide) rfl rfl
              have h82 : f_ 82 = (.int .i64 a.kind) := hf_ 1 82 _ (by decide) rfl rfl
              have h83 : f_ 83 = (.int .i64 kk) := hf_ 2 83 _ (by decide) rfl rfl
              simp only [mix, h81, h82, h83]
              clear h81 h82 h83
              clear hf_
              obtain ⟨w9, hw9⟩ : ∃ w9, w9 = w_ := ⟨_, rfl⟩
              rw [← hw9] at hx_ ⊢
              clear hw9
              have hI9 := HI8.out.below' hx_
              have hA9 := HA8.out.below hx_ lgA
              have hbw9 := bx_trans HBW8.out hx_
              have c2 : w9.cell? ⟨gA, 2, none⟩ = some (.slice a.Ar a.rows.length a.cr) := hA9.cell 2
              have c3 : w9.cell? ⟨gA, 3, none⟩ = some (.slice a.Ab a.bytes.length a.cb) := hA9.cell 3
              have lgA9 := hA9.lt
              have hrows := HF.out.symm
              have hr10 := (fewB_len hrows).1
              have hle9 := hI9.le
              have HFEW := hid (fewB_600 hrows)
              have HI9 := hid hI9
              have HA9 := hid hA9
              have HBW9 := hid hbw9
              have HLE9 := hid hle9
              clear hI9 hA9 hbw9 HI8 HA8 HBW8 hx_ c0 lgA hand7 hrows hle9
              rcases hkk7 with rfl | rfl | rfl | rfl | rfl | rfl | rfl | rfl
              · have hap := Append_any w9 HI9.out.has.log HI9.out.below.size (by rw [HI9.out.size]; decide) (by rw [HI9.out.size]; have := HI9.out.loose; omega) (b := a.bytes) (c := a.cb) (A := a.Ab) (fun W hx => (HAO0.out.below (HBW9.out.trans (hx.below.mono hB0))).b) HAO0.out.bc (by omega)
                have hout := app_inv HI9.out.has.inv (b := a.bytes) (by omega)
                have hlo := app_loose (D := D8) (b := a.bytes) HI9.out.has.inv.fit
                obtain ⟨R, hR⟩ : ∃ R, R = appS D8 L a.bytes := ⟨_, rfl⟩
                rw [← hR] at hap hout hlo
                have HAP := hid hap
                have HOUT := hid hout
                have HLO := hid hlo
                clear hap hout hlo hR c2
                go_wp2_with fail
                refine HAP.out.mono ?_
                rintro e w10 ⟨rfl, hl10, hx10⟩
                have hA10 := blk_xfr HA9.out hx10 (by decide)
                have hs10 := own_xfr HI9.out.s hx10 (by decide)
                have ha10 := own_xfr HI9.out.a hx10 (by decide)
                have hb10 := HI9.out.below.trans hx10.below
                have hl2 := HLO.out
                have hl3 := HI9.out.loose
                have hl4 := HI9.out.size
                have hl5 := HI9.out.turn
                rcases HOUT.out with ⟨o1, o2, o3, o4, o5, o6⟩ | ⟨o1, o2, o3⟩ | ⟨o1, o2, o3, o4, o5, o6⟩
                · rw [o1]
                  rw [o4] at hl10 o3
                  have c3' : w10.cell? ⟨gA, 3, none⟩ = some (.slice a.Ab a.bytes.length a.cb) := hA10.cell 3
                  have hcv := convT a.cb (HAO0.out.below (HBW9.out.trans (hx10.below.mono hB0))).b
                  have h63 : L.rows.length + 1 ≤ maxLen := by unfold maxLen; have := HLE9.out.2.1; omega
                  have hby : (L.rows.length + 1) * 16 ≤ 140737488355328 := by have := HLE9.out.2.1; omega
                  have hob : (w10.alloc (.cells #[.string ⟨a.bytes.toArray⟩] tStr)).ownsRow w0.heap.size tStr 1 u11 L.rows.length (L.rows.map sval) := own_keepW ha10 (bx_alloc (Below.refl _ _) _)
                  have hrd : Rd (w10.alloc (.cells #[.string ⟨a.bytes.toArray⟩] tStr)) (w10.alloc (.cells #[.string ⟨a.bytes.toArray⟩] tStr)).heap.size (some ⟨w10.heap.size, 0, none⟩) [.string ⟨a.bytes.toArray⟩] := rd_of_row (heap_new rfl) rfl
                  have hbb := bx_alloc hb10 (.cells #[.string ⟨a.bytes.toArray⟩] tStr)
                  have hone : ∀ u ∈ [Value.string ⟨a.bytes.toArray⟩], u.oneCell' = true := by intro u hu; simp at hu; subst hu; rfl
                  have hbs := hbb.size
                  have hba : Below w10.heap.size w10 (w10.alloc (.cells #[.string ⟨a.bytes.toArray⟩] tStr)) := bx_alloc (Below.refl _ _) _
                  have HH := hid ((⟨hl10, o3⟩ : Has w10 w0.heap.size gl' g R.2.1 { L with b := L.b ++ frameL a.bytes, rows := L.rows ++ [a.bytes] } rs).below hba hb10.size)
                  have HOB := hid hob
                  have HSB := hid (own_keepW hs10 hba)
                  have HAB := hid (hA10.below hba hA10.lt)
                  have HBB := hid hbb
                  clear hob hs10 ha10 hA10 hl10 o2 o3 o4 o5 hba hbb hx10 HAP HOUT hb10 c3
                  go_wp2_with (at_builtin; refine wpList_app2 rfl _ _ _ rfl _ rfl _ _ _ rfl elStr HOB.out hrd rfl hone h63 hby hbs (by decide) ?_; intro v11 w11 hown11 hg11 hal11)
                  have hx11 : XFr [tStr] w0.heap.size (w10.alloc (.cells #[.string ⟨a.bytes.toArray⟩] tStr)) w11 := XFr.of_grown HOB.out hg11 (by simp) hbs
                  refine cut_leaf HKC (by kernel_rfl) ?_
                  refine ⟨blk_xfr HAB.out hx11 (by decide), 0, rfl, .inl ⟨by decide, by decide, R.2.1, { L with b := L.b ++ frameL a.bytes, rows := L.rows ++ [a.bytes] }, rs, ⟨HH.out.grown HOB.out hg11 hx11, o6.trans HI9.out.n, hl4, by show L.turn ≤ i + 1; omega, by omega, HBB.out.trans hx11.below, hal11 _ _ _ _ HLE9.out.1 HSB.out, ?_⟩⟩⟩
                  show w11.ownsRow w0.heap.size tStr 1 v11 (L.rows ++ [a.bytes]).length ((L.rows ++ [a.bytes]).map sval)
                  rw [List.length_append, List.map_append]
                  exact hown11
                · rw [o1]
                  rw [o3] at hl10
                  have hI10 : SureI w0 g gl' (i + 1) D8 L rs u10 u11 w10 := ⟨⟨hl10, HI9.out.has.inv⟩, HI9.out.n, hl4, by omega, by omega, hb10, hs10, ha10⟩
                  have HI10 := hid hI10
                  have HA10 := hid hA10
                  clear hI10 hl10 o1 o2 o3 hs10 ha10 hA10 hx10 HAP HOUT hb10 c3
                  go_wp2_with fail
                  refine cut_leaf HKC (by kernel_rfl) ?_
                  exact ⟨HA10.out, 31, rfl, .inl ⟨by decide, by decide, _, _, _, HI10.out⟩⟩
                · rw [o1]
                  have hD10 : DownI w0 g (i + 1) R.2.1 rs rs u10 u10 w10 := ⟨hl10.disk, o4.trans HI9.out.n, hb10, hs10, hs10, fun front => ⟨L.turn, L.area, rs, by omega, .inl rfl, by have := o6 front; rwa [hl4] at this⟩⟩
                  have HD10 := hid hD10
                  have HA10 := hid hA10
                  clear hD10 hl10 o1 o2 o3 o4 o5 o6 hs10 ha10 hA10 hx10 HAP HOUT hb10 c3
                  go_wp2_with fail
                  refine cut_leaf HKC (by kernel_rfl) ?_
                  exact ⟨HA10.out, 30, rfl, .inr ⟨.inl rfl, _, _, _, HD10.out⟩⟩
              · have hap := Append_any w9 HI9.out.has.log HI9.out.below.size (by rw [HI9.out.size]; decide) (by rw [HI9.out.size]; have := HI9.out.loose; omega) (b := a.bytes) (c := a.cb) (A := a.Ab) (fun W hx => (HAO0.out.below (HBW9.out.trans (hx.below.mono hB0))).b) HAO0.out.bc (by omega)
                have hout := app_inv HI9.out.has.inv (b := a.bytes) (by omega)
                have hlo := app_loose (D := D8) (b := a.bytes) HI9.out.has.inv.fit
                obtain ⟨R, hR⟩ : ∃ R, R = appS D8 L a.bytes := ⟨_, rfl⟩
                rw [← hR] at hap hout hlo
                have HAP := hid hap
                have HOUT := hid hout
                have HLO := hid hlo
                clear hap hout hlo hR c2
                go_wp2_with fail
                refine HAP.out.mono ?_
                rintro e w10 ⟨rfl, hl10, hx10⟩
                have hA10 := blk_xfr HA9.out hx10 (by decide)
                have hs10 := own_xfr HI9.out.s hx10 (by decide)
                have ha10 := own_xfr HI9.out.a hx10 (by decide)
                have hb10 := HI9.out.below.trans hx10.below
                have hl2 := HLO.out
                have hl3 := HI9.out.loose
                have hl4 := HI9.out.size
                have hl5 := HI9.out.turn
                rcases HOUT.out with ⟨o1, o2, o3, o4, o5, o6⟩ | ⟨o1, o2, o3⟩ | ⟨o1, o2, o3, o4, o5, o6⟩
                · rw [o1]
                  rw [o4] at hl10 o3
                  have c3' : w10.cell? ⟨gA, 3, none⟩ = some (.slice a.Ab a.bytes.length a.cb) := hA10.cell 3
                  have hcv := convT a.cb (HAO0.out.below (HBW9.out.trans (hx10.below.mono hB0))).b
                  have h63 : L.rows.length + 1 ≤ maxLen := by unfold maxLen; have := HLE9.out.2.1; omega
                  have hby : (L.rows.length + 1) * 16 ≤ 140737488355328 := by have := HLE9.out.2.1; omega
                  have hob : (w10.alloc (.cells #[.string ⟨a.bytes.toArray⟩] tStr)).ownsRow w0.heap.size tStr 1 u11 L.rows.length (L.rows.map sval) := own_keepW ha10 (bx_alloc (Below.refl _ _) _)
                  have hrd : Rd (w10.alloc (.cells #[.string ⟨a.bytes.toArray⟩] tStr)) (w10.alloc (.cells #[.string ⟨a.bytes.toArray⟩] tStr)).heap.size (some ⟨w10.heap.size, 0, none⟩) [.string ⟨a.bytes.toArray⟩] := rd_of_row (heap_new rfl) rfl
                  have hbb := bx_alloc hb10 (.cells #[.string ⟨a.bytes.toArray⟩] tStr)
                  have hone : ∀ u ∈ [Value.string ⟨a.bytes.toArray⟩], u.oneCell' = true := by intro u hu; simp at hu; subst hu; rfl
                  have hbs := hbb.size
                  have hba : Below w10.heap.size w10 (w10.alloc (.cells #[.string ⟨a.bytes.toArray⟩] tStr)) := bx_alloc (Below.refl _ _) _
                  have HH := hid ((⟨hl10, o3⟩ : Has w10 w0.heap.size gl' g R.2.1 { L with b := L.b ++ frameL a.bytes, rows := L.rows ++ [a.bytes] } rs).below hba hb10.size)
                  have HOB := hid hob
                  have HSB := hid (own_keepW hs10 hba)
                  have HAB := hid (hA10.below hba hA10.lt)
                  have HBB := hid hbb
                  clear hob hs10 ha10 hA10 hl10 o2 o3 o4 o5 hba hbb hx10 HAP HOUT hb10 c3
                  go_wp2_with (at_builtin; refine wpList_app2 rfl _ _ _ rfl _ rfl _ _ _ rfl elStr HOB.out hrd rfl hone h63 hby hbs (by decide) ?_; intro v11 w11 hown11 hg11 hal11)
                  have hx11 : XFr [tStr] w0.heap.size (w10.alloc (.cells #[.string ⟨a.bytes.toArray⟩] tStr)) w11 := XFr.of_grown HOB.out hg11 (by simp) hbs
                  refine cut_leaf HKC (by kernel_rfl) ?_
                  refine ⟨blk_xfr HAB.out hx11 (by decide), 0, rfl, .inl ⟨by decide, by decide, R.2.1, { L with b := L.b ++ frameL a.bytes, rows := L.rows ++ [a.bytes] }, rs, ⟨HH.out.grown HOB.out hg11 hx11, o6.trans HI9.out.n, hl4, by show L.turn ≤ i + 1; omega, by omega, HBB.out.trans hx11.below, hal11 _ _ _ _ HLE9.out.1 HSB.out, ?_⟩⟩⟩
                  show w11.ownsRow w0.heap.size tStr 1 v11 (L.rows ++ [a.bytes]).length ((L.rows ++ [a.bytes]).map sval)
                  rw [List.length_append, List.map_append]
                  exact hown11
                · rw [o1]
                  rw [o3] at hl10
                  have hI10 : SureI w0 g gl' (i + 1) D8 L rs u10 u11 w10 := ⟨⟨hl10, HI9.out.has.inv⟩, HI9.out.n, hl4, by omega, by omega, hb10, hs10, ha10⟩
                  have HI10 := hid hI10
                  have HA10 := hid hA10
                  clear hI10 hl10 o1 o2 o3 hs10 ha10 hA10 hx10 HAP HOUT hb10 c3
                  go_wp2_with fail
                  refine cut_leaf HKC (by kernel_rfl) ?_
                  exact ⟨HA10.out, 31, rfl, .inl ⟨by decide, by decide, _, _, _, HI10.out⟩⟩
                · rw [o1]
                  have hD10 : DownI w0 g (i + 1) R.2.1 rs rs u10 u10 w10 := ⟨hl10.disk, o4.trans HI9.out.n, hb10, hs10, hs10, fun front => ⟨L.turn, L.area, rs, by omega, .inl rfl, by have := o6 front; rwa [hl4] at this⟩⟩
                  have HD10 := hid hD10
                  have HA10 := hid hA10
                  clear hD10 hl10 o1 o2 o3 o4 o5 o6 hs10 ha10 hA10 hx10 HAP HOUT hb10 c3
                  go_wp2_with fail
                  refine cut_leaf HKC (by kernel_rfl) ?_
                  exact ⟨HA10.out, 30, rfl, .inr ⟨.inl rfl, _, _, _, HD10.out⟩⟩
              · have hap := Append_any w9 HI9.out.has.log HI9.out.below.size (by rw [HI9.out.size]; decide) (by rw [HI9.out.size]; have := HI9.out.loose; omega) (b := a.bytes) (c := a.cb) (A := a.Ab) (fun W hx => (HAO0.out.below (HBW9.out.trans (hx.below.mono hB0))).b) HAO0.out.bc (by omega)
                have hout := app_inv HI9.out.has.inv (b := a.bytes) (by omega)
                have hlo := app_loose (D := D8) (b := a.bytes) HI9.out.has.inv.fit
                obtain ⟨R, hR⟩ : ∃ R, R = appS D8 L a.bytes := ⟨_, rfl⟩
                rw [← hR] at hap hout hlo
                have HAP := hid hap
                have HOUT := hid hout
                have HLO := hid hlo
                clear hap hout hlo hR c2
                go_wp2_with fail
                refine HAP.out.mono ?_
                rintro e w10 ⟨rfl, hl10, hx10⟩
                have hA10 := blk_xfr HA9.out hx10 (by decide)
                have hs10 := own_xfr HI9.out.s hx10 (by decide)
                have ha10 := own_xfr HI9.out.a hx10 (by decide)
                have hb10 := HI9.out.below.trans hx10.below
                have hl2 := HLO.out
                have hl3 := HI9.out.loose
                have hl4 := HI9.out.size
                have hl5 := HI9.out.turn
                rcases HOUT.out with ⟨o1, o2, o3, o4, o5, o6⟩ | ⟨o1, o2, o3⟩ | ⟨o1, o2, o3, o4, o5, o6⟩
                · rw [o1]
                  rw [o4] at hl10 o3
                  have c3' : w10.cell? ⟨gA, 3, none⟩ = some (.slice a.Ab a.bytes.length a.cb) := hA10.cell 3
                  have hcv := convT a.cb (HAO0.out.below (HBW9.out.trans (hx10.below.mono hB0))).b
                  have h63 : L.rows.length + 1 ≤ maxLen := by unfold maxLen; have := HLE9.out.2.1; omega
                  have hby : (L.rows.length + 1) * 16 ≤ 140737488355328 := by have := HLE9.out.2.1; omega
                  have hob : (w10.alloc (.cells #[.string ⟨a.bytes.toArray⟩] tStr)).ownsRow w0.heap.size tStr 1 u11 L.rows.length (L.rows.map sval) := own_keepW ha10 (bx_alloc (Below.refl _ _) _)
                  have hrd : Rd (w10.alloc (.cells #[.string ⟨a.bytes.toArray⟩] tStr)) (w10.alloc (.cells #[.string ⟨a.bytes.toArray⟩] tStr)).heap.size (some ⟨w10.heap.size, 0, none⟩) [.string ⟨a.bytes.toArray⟩] := rd_of_row (heap_new rfl) rfl
                  have hbb := bx_alloc hb10 (.cells #[.string ⟨a.bytes.toArray⟩] tStr)
                  have hone : ∀ u ∈ [Value.string ⟨a.bytes.toArray⟩], u.oneCell' = true := by intro u hu; simp at hu; subst hu; rfl
                  have hbs := hbb.size
                  have hba : Below w10.heap.size w10 (w10.alloc (.cells #[.string ⟨a.bytes.toArray⟩] tStr)) := bx_alloc (Below.refl _ _) _
                  have HH := hid ((⟨hl10, o3⟩ : Has w10 w0.heap.size gl' g R.2.1 { L with b := L.b ++ frameL a.bytes, rows := L.rows ++ [a.bytes] } rs).below hba hb10.size)
                  have HOB := hid hob
                  have HSB := hid (own_keepW hs10 hba)
                  have HAB := hid (hA10.below hba hA10.lt)
                  have HBB := hid hbb
                  clear hob hs10 ha10 hA10 hl10 o2 o3 o4 o5 hba hbb hx10 HAP HOUT hb10 c3
                  go_wp2_with (at_builtin; refine wpList_app2 rfl _ _ _ rfl _ rfl _ _ _ rfl elStr HOB.out hrd rfl hone h63 hby hbs (by decide) ?_; intro v11 w11 hown11 hg11 hal11)
                  have hx11 : XFr [tStr] w0.heap.size (w10.alloc (.cells #[.string ⟨a.bytes.toArray⟩] tStr)) w11 := XFr.of_grown HOB.out hg11 (by simp) hbs
                  refine cut_leaf HKC (by kernel_rfl) ?_
                  refine ⟨blk_xfr HAB.out hx11 (by decide), 0, rfl, .inl ⟨by decide, by decide, R.2.1, { L with b := L.b ++ frameL a.bytes, rows := L.rows ++ [a.bytes] }, rs, ⟨HH.out.grown HOB.out hg11 hx11, o6.trans HI9.out.n, hl4, by show L.turn ≤ i + 1; omega, by omega, HBB.out.trans hx11.below, hal11 _ _ _ _ HLE9.out.1 HSB.out, ?_⟩⟩⟩
                  show w11.ownsRow w0.heap.size tStr 1 v11 (L.rows ++ [a.bytes]).length ((L.rows ++ [a.bytes]).map sval)
                  rw [List.length_append, List.map_append]
                  exact hown11
                · rw [o1]
                  rw [o3] at hl10
                  have hI10 : SureI w0 g gl' (i + 1) D8 L rs u10 u11 w10 := ⟨⟨hl10, HI9.out.has.inv⟩, HI9.out.n, hl4, by omega, by omega, hb10, hs10, ha10⟩
                  have HI10 := hid hI10
                  have HA10 := hid hA10
                  clear hI10 hl10 o1 o2 o3 hs10 ha10 hA10 hx10 HAP HOUT hb10 c3
                  go_wp2_with fail
                  refine cut_leaf HKC (by kernel_rfl) ?_
                  exact ⟨HA10.out, 31, rfl, .inl ⟨by decide, by decide, _, _, _, HI10.out⟩⟩
                · rw [o1]
                  have hD10 : DownI w0 g (i + 1) R.2.1 rs rs u10 u10 w10 := ⟨hl10.disk, o4.trans HI9.out.n, hb10, hs10, hs10, fun front => ⟨L.turn, L.area, rs, by omega, .inl rfl, by have := o6 front; rwa [hl4] at this⟩⟩
                  have HD10 := hid hD10
                  have HA10 := hid hA10
                  clear hD10 hl10 o1 o2 o3 o4 o5 o6 hs10 ha10 hA10 hx10 HAP HOUT hb10 c3
                  go_wp2_with fail
                  refine cut_leaf HKC (by kernel_rfl) ?_
                  exact ⟨HA10.out, 30, rfl, .inr ⟨.inl rfl, _, _, _, HD10.out⟩⟩
              · have hap := Append_any w9 HI9.out.has.log HI9.out.below.size (by rw [HI9.out.size]; decide) (by rw [HI9.out.size]; have := HI9.out.loose; omega) (b := a.bytes) (c := a.cb) (A := a.Ab) (fun W hx => (HAO0.out.below (HBW9.out.trans (hx.below.mono hB0))).b) HAO0.out.bc (by omega)
                have hout := app_inv HI9.out.has.inv (b := a.bytes) (by omega)
                have hlo := app_loose (D := D8) (b := a.bytes) HI9.out.has.inv.fit
                obtain ⟨R, hR⟩ : ∃ R, R = appS D8 L a.bytes := ⟨_, rfl⟩
                rw [← hR] at hap hout hlo
                have HAP := hid hap
                have HOUT := hid hout
                have HLO := hid hlo
                clear hap hout hlo hR c2
                go_wp2_with fail
                refine HAP.out.mono ?_
                rintro e w10 ⟨rfl, hl10, hx10⟩
                have hA10 := blk_xfr HA9.out hx10 (by decide)
                have hs10 := own_xfr HI9.out.s hx10 (by decide)
                have ha10 := own_xfr HI9.out.a hx10 (by decide)
                have hb10 := HI9.out.below.trans hx10.below
                have hl2 := HLO.out
                have hl3 := HI9.out.loose
                have hl4 := HI9.out.size
                have hl5 := HI9.out.turn
                rcases HOUT.out with ⟨o1, o2, o3, o4, o5, o6⟩ | ⟨o1, o2, o3⟩ | ⟨o1, o2, o3, o4, o5, o6⟩
                · rw [o1]
                  rw [o4] at hl10 o3
                  have c3' : w10.cell? ⟨gA, 3, none⟩ = some (.slice a.Ab a.bytes.length a.cb) := hA10.cell 3
                  have hcv := convT a.cb (HAO0.out.below (HBW9.out.trans (hx10.below.mono hB0))).b
                  have h63 : L.rows.length + 1 ≤ maxLen := by unfold maxLen; have := HLE9.out.2.1; omega
                  have hby : (L.rows.length + 1) * 16 ≤ 140737488355328 := by have := HLE9.out.2.1; omega
                  have hob : (w10.alloc (.cells #[.string ⟨a.bytes.toArray⟩] tStr)).ownsRow w0.heap.size tStr 1 u11 L.rows.length (L.rows.map sval) := own_keepW ha10 (bx_alloc (Below.refl _ _) _)
                  have hrd : Rd (w10.alloc (.cells #[.string ⟨a.bytes.toArray⟩] tStr)) (w10.alloc (.cells #[.string ⟨a.bytes.toArray⟩] tStr)).heap.size (some ⟨w10.heap.size, 0, none⟩) [.string ⟨a.bytes.toArray⟩] := rd_of_row (heap_new rfl) rfl
                  have hbb := bx_alloc hb10 (.cells #[.string ⟨a.bytes.toArray⟩] tStr)
                  have hone : ∀ u ∈ [Value.string ⟨a.bytes.toArray⟩], u.oneCell' = true := by intro u hu; simp at hu; subst hu; rfl
                  have hbs := hbb.size
                  have hba : Below w10.heap.size w10 (w10.alloc (.cells #[.string ⟨a.bytes.toArray⟩] tStr)) := bx_alloc (Below.refl _ _) _
                  have HH := hid ((⟨hl10, o3⟩ : Has w10 w0.heap.size gl' g R.2.1 { L with b := L.b ++ frameL a.bytes, rows := L.rows ++ [a.bytes] } rs).below hba hb10.size)
                  have HOB := hid hob
                  have HSB := hid (own_keepW hs10 hba)
                  have HAB := hid (hA10.below hba hA10.lt)
                  have HBB := hid hbb
                  clear hob hs10 ha10 hA10 hl10 o2 o3 o4 o5 hba hbb hx10 HAP HOUT hb10 c3
                  go_wp2_with (at_builtin; refine wpList_app2 rfl _ _ _ rfl _ rfl _ _ _ rfl elStr HOB.out hrd rfl hone h63 hby hbs (by decide) ?_; intro v11 w11 hown11 hg11 hal11)
                  have hx11 : XFr [tStr] w0.heap.size (w10.alloc (.cells #[.string ⟨a.bytes.toArray⟩] tStr)) w11 := XFr.of_grown HOB.out hg11 (by simp) hbs
                  refine cut_leaf HKC (by kernel_rfl) ?_
                  refine ⟨blk_xfr HAB.out hx11 (by decide), 0, rfl, .inl ⟨by decide, by decide, R.2.1, { L with b := L.b ++ frameL a.bytes, rows := L.rows ++ [a.bytes] }, rs, ⟨HH.out.grown HOB.out hg11 hx11, o6.trans HI9.out.n, hl4, by show L.turn ≤ i + 1; omega, by omega, HBB.out.trans hx11.below, hal11 _ _ _ _ HLE9.out.1 HSB.out, ?_⟩⟩⟩
                  show w11.ownsRow w0.heap.size tStr 1 v11 (L.rows ++ [a.bytes]).length ((L.rows ++ [a.bytes]).map sval)
                  rw [List.length_append, List.map_append]
                  exact hown11
                · rw [o1]
                  rw [o3] at hl10
                  have hI10 : SureI w0 g gl' (i + 1) D8 L rs u10 u11 w10 := ⟨⟨hl10, HI9.out.has.inv⟩, HI9.out.n, hl4, by omega, by omega, hb10, hs10, ha10⟩
                  have HI10 := hid hI10
                  have HA10 := hid hA10
                  clear hI10 hl10 o1 o2 o3 hs10 ha10 hA10 hx10 HAP HOUT hb10 c3
                  go_wp2_with fail
                  refine cut_leaf HKC (by kernel_rfl) ?_
                  exact ⟨HA10.out, 31, rfl, .inl ⟨by decide, by decide, _, _, _, HI10.out⟩⟩
                · rw [o1]
                  have hD10 : DownI w0 g (i + 1) R.2.1 rs rs u10 u10 w10 := ⟨hl10.disk, o4.trans HI9.out.n, hb10, hs10, hs10, fun front => ⟨L.turn, L.area, rs, by omega, .inl rfl, by have := o6 front; rwa [hl4] at this⟩⟩
                  have HD10 := hid hD10
                  have HA10 := hid hA10
                  clear hD10 hl10 o1 o2 o3 o4 o5 o6 hs10 ha10 hA10 hx10 HAP HOUT hb10 c3
                  go_wp2_with fail
                  refine cut_leaf HKC (by kernel_rfl) ?_
                  exact ⟨HA10.out, 30, rfl, .inr ⟨.inl rfl, _, _, _, HD10.out⟩⟩
              · have hsy := LSync_any w9 HI9.out.has.log HI9.out.below.size (by rw [HI9.out.size]; decide) (by have := HI9.out.loose; omega) (by have := HI9.out.turn; omega)
                have hsi := syn_inv HI9.out.has.inv (by have := HI9.out.turn; omega)
                have hsl := syn_loose D8 L
                obtain ⟨S, hS⟩ : ∃ S, S = synS D8 L := ⟨_, rfl⟩
                rw [← hS] at hsy hsi hsl
                have HSY := hid hsy
                have HSI := hid hsi
                have HSL := hid hsl
                clear hsy hsi hsl hS c2 c3
                go_wp2_with fail
                refine HSY.out.mono ?_
                rintro e w10 ⟨rfl, hl10, hx10⟩
                have hA10 := blk_xfr HA9.out hx10 (by decide)
                have hs10 := own_xfr HI9.out.s hx10 (by decide)
                have ha10 := own_xfr HI9.out.a hx10 (by decide)
                have hb10 := HI9.out.below.trans hx10.below
                have hl2 := HSL.out
                have hl3 := HI9.out.loose
                have hl4 := HI9.out.size
                have hl5 := HI9.out.turn
                rcases HSI.out with ⟨o1, o2, o3, o4, o5, o6, o7, o8⟩ | ⟨o1, o2, o3, o4, o5, o6⟩
                · rw [o1]
                  have hI10 : SureI w0 g gl' (i + 1) S.2.1 S.2.2 L.rows u11 u11 w10 := ⟨⟨hl10, o2⟩, o8.trans HI9.out.n, o5.trans hl4, by omega, by omega, hb10, ha10, by rw [o3]; exact ha10⟩
                  have HI10 := hid hI10
                  have HA10 := hid hA10
                  clear hI10 hl10 o1 o2 o3 o4 o5 o6 o7 o8 hs10 ha10 hA10 hx10 HSY HSI hb10
                  go_wp2_with fail
                  refine cut_leaf HKC (by kernel_rfl) ?_
                  exact ⟨HA10.out, 0, rfl, .inl ⟨by decide, by decide, _, _, _, HI10.out⟩⟩
                · rw [o1]
                  have hD10 : DownI w0 g (i + 1) S.2.1 rs L.rows u10 u11 w10 := ⟨hl10.disk, o4.trans HI9.out.n, hb10, hs10, ha10, fun front => by
                    rcases o6 front with h | h
                    · exact ⟨L.turn, L.area, rs, by omega, .inl rfl, by rwa [hl4] at h⟩
                    · exact ⟨L.turn + 1, L.area, L.rows, by omega, .inr rfl, by rwa [hl4] at h⟩⟩
                  have HD10 := hid hD10
                  have HA10 := hid hA10
                  clear hD10 hl10 o1 o2 o3 o4 o5 o6 hs10 ha10 hA10 hx10 HSY HSI hb10
                  go_wp2_with fail
                  refine cut_leaf HKC (by kernel_rfl) ?_
                  exact ⟨HA10.out, 30, rfl, .inr ⟨.inl rfl, _, _, _, HD10.out⟩⟩
              · have hsy := LSync_any w9 HI9.out.has.log HI9.out.below.size (by rw [HI9.out.size]; decide) (by have := HI9.out.loose; omega) (by have := HI9.out.turn; omega)
                have hsi := syn_inv HI9.out.has.inv (by have := HI9.out.turn; omega)
                have hsl := syn_loose D8 L
                obtain ⟨S, hS⟩ : ∃ S, S = synS D8 L := ⟨_, rfl⟩
                rw [← hS] at hsy hsi hsl
                have HSY := hid hsy
                have HSI := hid hsi
                have HSL := hid hsl
                clear hsy hsi hsl hS c2 c3
                go_wp2_with fail
                refine HSY.out.mono ?_
                rintro e w10 ⟨rfl, hl10, hx10⟩
                have hA10 := blk_xfr HA9.out hx10 (by decide)
                have hs10 := own_xfr HI9.out.s hx10 (by decide)
                have ha10 := own_xfr HI9.out.a hx10 (by decide)
                have hb10 := HI9.out.below.trans hx10.below
                have hl2 := HSL.out
                have hl3 := HI9.out.loose
                have hl4 := HI9.out.size
                have hl5 := HI9.out.turn
                rcases HSI.out with ⟨o1, o2, o3, o4, o5, o6, o7, o8⟩ | ⟨o1, o2, o3, o4, o5, o6⟩
                · rw [o1]
                  have hI10 : SureI w0 g gl' (i + 1) S.2.1 S.2.2 L.rows u11 u11 w10 := ⟨⟨hl10, o2⟩, o8.trans HI9.out.n, o5.trans hl4, by omega, by omega, hb10, ha10, by rw [o3]; exact ha10⟩
                  have HI10 := hid hI10
                  have HA10 := hid hA10
                  clear hI10 hl10 o1 o2 o3 o4 o5 o6 o7 o8 hs10 ha10 hA10 hx10 HSY HSI hb10
                  go_wp2_with fail
                  refine cut_leaf HKC (by kernel_rfl) ?_
                  exact ⟨HA10.out, 0, rfl, .inl ⟨by decide, by decide, _, _, _, HI10.out⟩⟩
                · rw [o1]
                  have hD10 : DownI w0 g (i + 1) S.2.1 rs L.rows u10 u11 w10 := ⟨hl10.disk, o4.trans HI9.out.n, hb10, hs10, ha10, fun front => by
                    rcases o6 front with h | h
                    · exact ⟨L.turn, L.area, rs, by omega, .inl rfl, by rwa [hl4] at h⟩
                    · exact ⟨L.turn + 1, L.area, L.rows, by omega, .inr rfl, by rwa [hl4] at h⟩⟩
                  have HD10 := hid hD10
                  have HA10 := hid hA10
                  clear hD10 hl10 o1 o2 o3 o4 o5 o6 hs10 ha10 hA10 hx10 HSY HSI hb10
                  go_wp2_with fail
                  refine cut_leaf HKC (by kernel_rfl) ?_
                  exact ⟨HA10.out, 30, rfl, .inr ⟨.inl rfl, _, _, _, HD10.out⟩⟩
              · clear c3
                go_wp2_with fail
                refine (texts_any w9 (HAO0.out.below HBW9.out).r (by omega)).mono ?_
                rintro e wt ⟨vt, rfl, hot, hbt⟩
                have hIt := HI9.out.below' hbt
                have hot' := own_lessW hot HI9.out.below.size
                have hAt := HA9.out.below hbt lgA9
                have hbwt := bx_trans HBW9.out hbt
                have c2' : wt.cell? ⟨gA, 2, none⟩ = some (.slice a.Ar a.rows.length a.cr) := hAt.cell 2
                have hcp := Compact_any wt hIt.has.log hIt.below.size (by rw [hIt.size]; decide) (by rw [hIt.size]; have := hIt.loose; omega) (by have := hIt.turn; omega) (A := a.Ar) (c := a.cr) (rs := a.rows) (fun W hx => (HAO0.out.below (hbwt.trans (hx.below.mono hB0))).r) (by omega) (fun r hr => by have := HFEW.out r hr; omega)
                have hci := cmp_inv hIt.has.inv (by have := hIt.turn; omega) (rs' := a.rows) (fun r hr => by have := HFEW.out r hr; omega)
                have hcl := cmp_loose (D := D8) (L := L) (rs := a.rows)
                obtain ⟨C, hC⟩ : ∃ C, C = cmpS D8 L a.rows := ⟨_, rfl⟩
                rw [← hC] at hcp hci hcl
                have HCP := hid hcp
                have HCI := hid hci
                have HCL := hid hcl
                have HIT := hid hIt
                have HOT := hid hot'
                have HAT := hid hAt
                have HBT := hid hbwt
                clear hcp hci hcl hC hIt hot hot' hAt hbwt hbt HI9 HA9 HBW9 c2 HLE9
                go_wp2_with fail
                refine HCP.out.mono ?_
                rintro e w10 ⟨rfl, hl10, hx10⟩
                have hA10 := blk_xfr HAT.out hx10 (by decide)
                have hs10 := own_xfr HIT.out.s hx10 (by decide)
                have ha10 := own_xfr HIT.out.a hx10 (by decide)
                have ht10 := own_xfr HOT.out hx10 (by decide)
                have hb10 := HIT.out.below.trans hx10.below
                have hbw10 := HBT.out.trans (hx10.below.mono hB0)
                have hl2 := HCL.out
                have hl3 := HIT.out.loose
                have hl4 := HIT.out.size
                have hl5 := HIT.out.turn
                rcases HCI.out with ⟨o1, o2, o3, o4, o5, o6⟩ | ⟨o1, o2, o3⟩ | ⟨o1, o2, o3, o4, o5, o6⟩
                · rw [o1]
                  rw [o4] at hl10 o3
                  have c2'' : w10.cell? ⟨gA, 2, none⟩ = some (.slice a.Ar a.rows.length a.cr) := hA10.cell 2
                  have HAX := hid (HAO0.out.below hbw10)
                  have HA10 := hid hA10
                  have HH := hid (⟨hl10, o3⟩ : Has w10 w0.heap.size gl' g C.2.1 { L with turn := L.turn + 1, area := 1 - L.area, b := framL a.rows, rows := a.rows, sure := a.rows.length } a.rows)
                  have hn10 := o6.trans HIT.out.n
                  clear hl10 o1 o2 o3 o4 o5 o6 hs10 ha10 ht10 hA10 HCP HCI hx10 c2'
                  go_wp2_with fail
                  refine (texts_any w10 HAX.out.r (by omega)).mono ?_
                  rintro e wu ⟨vu, rfl, hou, hbu⟩
                  have hou' := own_lessW hou hb10.size
                  have hI11 : SureI w0 g gl' (i + 1) C.2.1 { L with turn := L.turn + 1, area := 1 - L.area, b := framL a.rows, rows := a.rows, sure := a.rows.length } a.rows vu vu wu := ⟨HH.out.below hbu hb10.size, hn10, hl4, by show L.turn + 1 ≤ i + 1; omega, by omega, bx_trans hb10 hbu, hou', hou'⟩
                  have HI11 := hid hI11
                  have HA11 := hid (HA10.out.below hbu HA10.out.lt)
                  clear hI11 hou hou' hbu HA10 HH hb10
                  go_wp2_with fail
                  refine cut_leaf HKC (by kernel_rfl) ?_
                  exact ⟨HA11.out, 0, rfl, .inl ⟨by decide, by decide, _, _, _, HI11.out⟩⟩
                · rw [o1]
                  rw [o3] at hl10
                  have hI10 : SureI w0 g gl' (i + 1) D8 L rs u10 u11 w10 := ⟨⟨hl10, HIT.out.has.inv⟩, HIT.out.n, hl4, by omega, by omega, hb10, hs10, ha10⟩
                  have HI10 := hid hI10
                  have HA10 := hid hA10
                  clear hI10 hl10 o1 o2 o3 hs10 ha10 ht10 hA10 hx10 HCP HCI hb10 c2'
                  go_wp2_with fail
                  refine cut_leaf HKC (by kernel_rfl) ?_
                  exact ⟨HA10.out, 31, rfl, .inl ⟨by decide, by decide, _, _, _, HI10.out⟩⟩
                · rw [o1]
                  have hD10 : DownI w0 g (i + 1) C.2.1 rs a.rows u10 vt w10 := ⟨hl10.disk, o4.trans HIT.out.n, hb10, hs10, ht10, fun front => by
                    rcases o6 front with h | h
                    · exact ⟨L.turn, L.area, rs, by omega, .inl rfl, by rwa [hl4] at h⟩
                    · exact ⟨L.turn + 1, 1 - L.area, a.rows, by omega, .inr rfl, by rwa [hl4] at h⟩⟩
                  have HD10 := hid hD10
                  have HA10 := hid hA10
                  clear hD10 hl10 o1 o2 o3 o4 o5 o6 hs10 ha10 ht10 hA10 hx10 HCP HCI hb10 c2'
                  go_wp2_with fail
                  refine cut_leaf HKC (by kernel_rfl) ?_
                  exact ⟨HA10.out, 30, rfl, .inr ⟨.inl rfl, _, _, _, HD10.out⟩⟩
              · clear c2 c3
                have HD9 := hid HI9.out.down
                go_wp2_with fail
                refine cut_leaf HKC (by kernel_rfl) ?_
                exact ⟨HA9.out, 0, rfl, .inr ⟨.inr rfl, D8, rs, rs, HD9.out.disk, HD9.out.n, HD9.out.below, HD9.out.s, HD9.out.m, fun fr => by
                  obtain ⟨T, aa, SS, h1, h2, h3⟩ := HD9.out.dur fr
                  exact ⟨T, aa, SS, by omega, h2, h3⟩⟩⟩
            case behind =>
              intro fb w9 hrel
              simp only [mix]
              generalize fb 10 = u10 at hrel ⊢
              generalize fb 11 = u11 at hrel ⊢
              generalize fb 15 = u15 at hrel ⊢
              generalize fb 16 = u16 at hrel ⊢
              obtain ⟨hA9, f, rfl, hsw⟩ := hrel
              have hb9 : Below w0.heap.size w0 w9 := by
                rcases hsw with ⟨_, _, _, _, _, h⟩ | ⟨_, _, _, _, h⟩
                · exact h.below
                · exact h.below
              have hbw9 := HB0.out.trans (hb9.mono hB0)
              have lgA9 := hA9.lt
              have c0' : w9.cell? ⟨gA, 0, none⟩ = some (.int .i64 a.kind) := hA9.cell 0
              have HSW := hid hsw
              have HBW9 := hid hbw9
              have HB9 := hid hb9
              clear hsw hbw9 hb9 hA9 HI8 HBW8 HA8 c0 lgA hkk7
              go_wp2_with fail
              refine wp_hold ?_
              refine wp_cut [false, false, false, false, false, false, false, false, true, true, true, true, false, false, false, false, false, true, true, false, false, false, false, false, false, false, false, false, false, false, false, false, false, false, false, false, false, false, false, false, false, false, false, false, false, false, false, false, false, false, false, false, false, false, false, false, false, false, false, false, false, false, false, false, false, false, false, false, false, false, false, false, false, false, false, false, false, false, false, false, false, false, false, false, false, false, false, false, false, false, false, false, false, false, false, false, false, false, false, false, false, false, false, false, false, false, false, false, false, false, false, false, false, false, false, false, false, false, false, false, false, false, false, false, false, false, false, false, true, true, true, true, true, true, true, true, true, true, true, true, true, true, true, true, true, true, true, true, true, true, true, true, true, true, true, true, true, true, true, true, true, true, true, true, true, true, true, true, true, true, true, true, true, true, true, true, true, true, true, true, true, true, true, true, true, true, true, true] (fun f wr => ∃ (gl : Nat) (D : DS) (L : LS) (rs : List (List UInt8)), f 8 = .pointer (some ⟨gl, 0, none⟩) ∧ SureI w0 g gl (i + 1) D L rs (f 10) (f 11) wr) ?inside ?behind
              case inside =>
                intro KC HKC
                have HKS := HSW.out
                rcases HKS with ⟨hf, hk, D, L, rs, hI⟩ | ⟨hfk, D, rs, M, hD⟩
                · have e30 : (f == 30) = false := by simpa using hf
                  have e7 : (kk == 7) = false := by simpa using hk
                  have HI9 := hid hI
                  clear hI HSW hf hk
                  go_wp2_with fail
                  refine wp_hold (wp_region_lit ?_)
                  refine wp_flowSE [0, 1, 3, 7, 15, 31, 63, 127] 8 [false, false, false, false, false, false, false, false, false, false, false, false, false, false, false, false, false, false, false, false, false, false, false, false, false, false, false, false, false, false, false, false, false, false, false, false, false, false, false, false, false, false, false, false, false, false, false, false, false, false, false, false, false, false, false, false, false, false, false, false, false, false, false, false, false, false, false, false, false, false, false, false, false, false, false, false, false, false, false, false, false, false, false, false, false, false, false, false, false, false, false, false, false, false, false, false, false, false, false, false, false, false, false, false, false, false, false, false, false, false, false, false, false, false, false, false, false, false, false, false, false, false, false, false, false, false, false, false, true, true, true, true, true, true, true, true] (by kernel_rfl) (by kernel_rfl) (by kernel_rfl) [FP.eq (.int .i64 f), FP.eq (.bool false), FP.eq (.bool false), FP.eq (.pointer (some ⟨gA, 0, none⟩)), FP.eq (.int .i64 a.kind), FP.eq (.int .i64 kk), FP.eq (.bool false), FP.eq (.bool false)] ?_ ?_
                  · refine allFrom_cons ?_ ?_
                    · intro a_ w_ hk_
                      have h16 : a_.eval (.tmp 16) = .int .i64 f := hk_.old 16 (by kernel_rfl)
                      have hx_ := hk_.ext
                      clear hk_
                      refine flow_plain rfl ?_
                      exact gives_move rfl ⟨Below.refl _ _, h16⟩
                    refine allFrom_cons ?_ ?_
                    · intro a_ w_ hk_
                      have h128 : a_.eval (.tmp 128) = (.int .i64 f) := hk_.got 0 128 _ (by kernel_rfl) rfl rfl
                      have hx_ := hk_.ext
                      clear hk_
                      refine flow_plain rfl ?_
                      unfold gives
                      have hc_ : ∀ v, a_.eval (.const v) = v := fun _ => rfl
                      have hn_ : ∀ f, a_.eval (.func f) = .func (.func f) #[] #[] := fun _ => rfl
                      generalize a_.eval = ρ_ at *
                      go_simp
                      exact ⟨Below.refl _ _, rfl⟩
                    refine allFrom_cons ?_ ?_
                    · intro a_ w_ hk_
                      have h129 : a_.eval (.tmp 129) = (.bool false) := hk_.got 1 129 _ (by kernel_rfl) rfl rfl
                      have hx_ := hk_.ext
                      clear hk_
                      refine flow_plain rfl ?_
                      exact gives_move rfl ⟨Below.refl _ _, h129⟩
                    refine allFrom_cons ?_ ?_
                    · intro a_ w_ hk_
                      have h13 : a_.eval (.tmp 13) = .pointer (some ⟨gA, 0, none⟩) := hk_.old 13 (by kernel_rfl)
                      have hg_ : a_.eval (.tmp 130) = .bool false := hk_.got 2 130 _ (by kernel_rfl) rfl rfl
                      have hy_ := hk_.want 2 _ 130 false rfl rfl hg_
                      have hx_ := hk_.ext
                      clear hk_
                      refine flow_want rfl hy_ ?_
                      unfold gives
                      have hc_ : ∀ v, a_.eval (.const v) = v := fun _ => rfl
                      have hn_ : ∀ f, a_.eval (.func f) = .func (.func f) #[] #[] := fun _ => rfl
                      clear hy_ hg_
                      generalize a_.eval = ρ_ at *
                      go_simp
                      exact ⟨Below.refl _ _, rfl⟩
                    refine allFrom_cons ?_ ?_
                    · intro a_ w_ hk_
                      have h131 : a_.eval (.tmp 131) = (.pointer (some ⟨gA, 0, none⟩)) := hk_.got 3 131 _ (by kernel_rfl) rfl rfl
                      have hg_ : a_.eval (.tmp 130) = .bool false := hk_.got 2 130 _ (by kernel_rfl) rfl rfl
                      have hy_ := hk_.want 2 _ 130 false rfl rfl hg_
                      have hx_ := hk_.ext
                      clear hk_
                      refine flow_want rfl hy_ ?_
                      unfold gives
                      have hc_ : ∀ v, a_.eval (.const v) = v := fun _ => rfl
                      have hn_ : ∀ f, a_.eval (.func f) = .func (.func f) #[] #[] := fun _ => rfl
                      clear hy_ hg_
                      have hcell := (hx_.cell (p := ⟨gA, 0, none⟩) lgA9).trans c0'
                      generalize a_.eval = ρ_ at *
                      go_simp
                      exact ⟨Below.refl _ _, rfl⟩
                    refine allFrom_cons ?_ ?_
                    · intro a_ w_ hk_
                      have h132 : a_.eval (.tmp 132) = (.int .i64 a.kind) := hk_.got 4 132 _ (by kernel_rfl) rfl rfl
                      have hg_ : a_.eval (.tmp 130) = .bool false := hk_.got 2 130 _ (by kernel_rfl) rfl rfl
                      have hy_ := hk_.want 2 _ 130 false rfl rfl hg_
                      have hx_ := hk_.ext
                      clear hk_
                      refine flow_want rfl hy_ ?_
                      unfold gives
                      have hc_ : ∀ v, a_.eval (.const v) = v := fun _ => rfl
                      have hn_ : ∀ f, a_.eval (.func f) = .func (.func f) #[] #[] := fun _ => rfl
                      clear hy_ hg_
                      generalize a_.eval = ρ_ at *
                      go_simp
                      exact ⟨Below.refl _ _, rfl⟩
                    refine allFrom_cons ?_ ?_
                    · intro a_ w_ hk_
                      have h133 : a_.eval (.tmp 133) = (.int .i64 kk) := hk_.got 5 133 _ (by kernel_rfl) rfl rfl
                      have hg_ : a_.eval (.tmp 130) = .bool false := hk_.got 2 130 _ (by kernel_rfl) rfl rfl
                      have hy_ := hk_.want 2 _ 130 false rfl rfl hg_
                      have hx_ := hk_.ext
                      clear hk_
                      refine flow_want rfl hy_ ?_
                      unfold gives
                      have hc_ : ∀ v, a_.eval (.const v) = v := fun _ => rfl
                      have hn_ : ∀ f, a_.eval (.func f) = .func (.func f) #[] #[] := fun _ => rfl
                      clear hy_ hg_
                      generalize a_.eval = ρ_ at *
                      go_simp
                      exact ⟨Below.refl _ _, rfl⟩
                    refine allFrom_cons ?_ ?_
                    · intro a_ w_ hk_
                      have h130 : a_.eval (.tmp 130) = (.bool false) := hk_.got 2 130 _ (by kernel_rfl) rfl rfl
                      have h134 : a_.eval (.tmp 134) = (.bool false) := hk_.got 6 134 _ (by kernel_rfl) rfl rfl
                      have hx_ := hk_.ext
                      clear hk_
                      refine flow_plain rfl ?_
                      exact gives_pick rfl h130 ⟨Below.refl _ _, h134⟩
                    exact allFrom_nil
                  intro f_ w_ hx_ hf_
                  have h128 : f_ 128 = (.int .i64 f) := hf_ 0 128 _ (by decide) rfl rfl
                  have h129 : f_ 129 = (.bool false) := hf_ 1 129 _ (by decide) rfl rfl
                  have h130 : f_ 130 = (.bool false) := hf_ 2 130 _ (by decide) rfl rfl
                  have h131 : f_ 131 = (.pointer (some ⟨gA, 0, none⟩)) := hf_ 3 131 _ (by decide) rfl rfl
                  have h132 : f_ 132 = (.int .i64 a.kind) := hf_ 4 132 _ (by decide) rfl rfl
                  have h133 : f_ 133 = (.int .i64 kk) := hf_ 5 133 _ (by decide) rfl rfl
                  have h134 : f_ 134 = (.bool false) := hf_ 6 134 _ (by decide) rfl rfl
                  have h135 : f_ 135 = (.bool false) := hf_ 7 135 _ (by decide) rfl rfl
                  simp only [mix, h128, h129, h130, h131, h132, h133, h134, h135]
                  clear h128 h129 h130 h131 h132 h133 h134 h135
                  clear hf_
                  go_wp2_with fail
                  refine cut_leaf HKC (by kernel_rfl) ?_
                  exact ⟨gl', D, L, rs, rfl, HI9.out.below' hx_⟩
                · have HDN := hid hD
                  clear hD
                  by_cases hf30 : f = 30
                  · subst hf30
                    clear hfk
                    go_wp2_with fail
                    refine wp_hold (wp_region_lit ?_)
                    refine wp_flowSE [0, 1, 3, 7, 15, 31, 63, 127] 8 [false, false, false, false, false, false, false, false, false, false, false, false, false, false, false, false, false, false, false, false, false, false, false, false, false, false, false, false, false, false, false, false, false, false, false, false, false, false, false, false, false, false, false, false, false, false, false, false, false, false, false, false, false, false, false, false, false, false, false, false, false, false, false, false, false, false, false, false, false, false, false, false, false, false, false, false, false, false, false, false, false, false, false, false, false, false, false, false, false, false, false, false, false, false, false, false, false, false, false, false, false, false, false, false, false, false, false, false, false, false, false, false, false, false, false, false, false, false, false, false, false, false, false, false, false, false, false, false, true, true, true, true, true, true, true, true] (by kernel_rfl) (by kernel_rfl) (by kernel_rfl) [FP.eq (.int .i64 30), FP.eq (.bool true), FP.eq (.bool true), FP.any, FP.any, FP.any, FP.any, FP.eq (.bool true)] ?_ ?_
                    · refine allFrom_cons ?_ ?_
                      · intro a_ w_ hk_
                        have h16 : a_.eval (.tmp 16) = .int .i64 30 := hk_.old 16 (by kernel_rfl)
                        have hx_ := hk_.ext
                        clear hk_
                        refine flow_plain rfl ?_
                        exact gives_move rfl ⟨Below.refl _ _, h16⟩
                      refine allFrom_cons ?_ ?_
                      · intro a_ w_ hk_
                        have h128 : a_.eval (.tmp 128) = (.int .i64 30) := hk_.got 0 128 _ (by kernel_rfl) rfl rfl
                        have hx_ := hk_.ext
                        clear hk_
                        refine flow_plain rfl ?_
                        unfold gives
                        have hc_ : ∀ v, a_.eval (.const v) = v := fun _ => rfl
                        have hn_ : ∀ f, a_.eval (.func f) = .func (.func f) #[] #[] := fun _ => rfl
                        generalize a_.eval = ρ_ at *
                        go_simp
                        exact ⟨Below.refl _ _, rfl⟩
                      refine allFrom_cons ?_ ?_
                      · intro a_ w_ hk_
                        have h129 : a_.eval (.tmp 129) = (.bool true) := hk_.got 1 129 _ (by kernel_rfl) rfl rfl
                        have hx_ := hk_.ext
                        clear hk_
                        refine flow_plain rfl ?_
                        exact gives_move rfl ⟨Below.refl _ _, h129⟩
                      refine allFrom_cons ?_ ?_
                      · intro a_ w_ hk_
                        have h13 : a_.eval (.tmp 13) = .pointer (some ⟨gA, 0, none⟩) := hk_.old 13 (by kernel_rfl)
                        have hg_ : a_.eval (.tmp 130) = .bool true := hk_.got 2 130 _ (by kernel_rfl) rfl rfl
                        have hy_ := hk_.want 2 _ 130 true rfl rfl hg_
                        have hx_ := hk_.ext
                        clear hk_
                        exact flow_skip rfl hy_ (by decide) trivial
                      refine allFrom_cons ?_ ?_
                      · intro a_ w_ hk_
                        have hg_ : a_.eval (.tmp 130) = .bool true := hk_.got 2 130 _ (by kernel_rfl) rfl rfl
                        have hy_ := hk_.want 2 _ 130 true rfl rfl hg_
                        have hx_ := hk_.ext
                        clear hk_
                        exact flow_skip rfl hy_ (by decide) trivial
                      refine allFrom_cons ?_ ?_
                      · intro a_ w_ hk_
                        have hg_ : a_.eval (.tmp 130) = .bool true := hk_.got 2 130 _ (by kernel_rfl) rfl rfl
                        have hy_ := hk_.want 2 _ 130 true rfl rfl hg_
                        have hx_ := hk_.ext
                        clear hk_
                        exact flow_skip rfl hy_ (by decide) trivial
                      refine allFrom_cons ?_ ?_
                      · intro a_ w_ hk_
                        have hg_ : a_.eval (.tmp 130) = .bool true := hk_.got 2 130 _ (by kernel_rfl) rfl rfl
                        have hy_ := hk_.want 2 _ 130 true rfl rfl hg_
                        have hx_ := hk_.ext
                        clear hk_
                        exact flow_skip rfl hy_ (by decide) trivial
                      refine allFrom_cons ?_ ?_
                      · intro a_ w_ hk_
                        have h130 : a_.eval (.tmp 130) = (.bool true) := hk_.got 2 130 _ (by kernel_rfl) rfl rfl
                        have hx_ := hk_.ext
                        clear hk_
                        refine flow_plain rfl ?_
                        exact gives_pick rfl h130 ⟨Below.refl _ _, rfl⟩
                      exact allFrom_nil
                    intro f_ w_ hx_ hf_
                    have h128 : f_ 128 = (.int .i64 30) := hf_ 0 128 _ (by decide) rfl rfl
                    have h129 : f_ 129 = (.bool true) := hf_ 1 129 _ (by decide) rfl rfl
                    have h130 : f_ 130 = (.bool true) := hf_ 2 130 _ (by decide) rfl rfl
                    have h135 : f_ 135 = (.bool true) := hf_ 7 135 _ (by decide) rfl rfl
                    simp only [mix, h128, h129, h130, h135]
                    clear h128 h129 h130 h135
                    clear hf_
                    have HD := hid (HDN.out.below' hx_)
                    have HBWc := hid (bx_trans HBW9.out hx_)
                    obtain ⟨wc0, hwc0⟩ : ∃ wc0, wc0 = w_ := ⟨_, rfl⟩
                    rw [← hwc0] at hx_ HD HBWc ⊢
                    clear hwc0 HDN HSW hx_ HB9 HBW9 hand7 c0' lgA9
                    have hcF := (HBWc.out.cell (p := ⟨bf, offf + i, none⟩) hbf).trans HCF.out
                    have hi1 : (i : Int) < (fronts.length : Int) := by omega
                    go_wp2_with fail
                    refine (Crash_any wc0 (front := fr) HD.out.disk (Kp.of_below (HRX.out.below HBWc.out) hB0) (Nat.le_trans hB0 HD.out.below.size) HSX.out).mono ?_
                    rintro e wc ⟨rfl, hdc, hfc⟩
                    obtain ⟨T, aa, SS, hT, hSS, hdur⟩ := HD.out.dur fr
                    have hs1 := own_dfr HD.out.s hfc (by decide) (by decide)
                    have hm1 := own_dfr HD.out.m hfc (by decide) (by decide)
                    have hbc := HD.out.below.trans hfc.below
                    have hsz : sizeD (crashD D fr) = 7 := by show (D.n - 2) / 2 = 7; rw [HD.out.n]
                    have hnc : (crashD D fr).n = 16 := HD.out.n
                    have hlc : (crashD D fr).loose = [] := rfl
                    have hac : (crashD D fr).dead = false := rfl
                    obtain ⟨Dc, hDc⟩ : ∃ Dc, Dc = crashD D fr := ⟨_, rfl⟩
                    rw [← hDc] at hdc hdur hsz hnc hlc hac
                    rw [← hsz] at hdur
                    have HDU := hid hdur
                    have HDC := hid hdc
                    have HS1 := hid hs1
                    have HM1 := hid hm1
                    have HBC := hid hbc
                    have HLC := hid hlc
                    clear hdur hdc hs1 hm1 hbc hfc HD HBWc hcF hDc hlc
                    go_wp2_with fail
                    refine (cOpen wc HDC.out HBC.out.size (by omega) hac HLC.out HDU.out).mono ?_
                    rintro e wo ⟨glo, rfl, hho, hbo⟩
                    rw [hsz] at hho
                    have HS2 := hid (own_keepW HS1.out hbo)
                    have HM2 := hid (own_keepW HM1.out hbo)
                    have HBO := hid (bx_trans HBC.out hbo)
                    have HHO := hid hho
                    have hSl := hho.inv.short
                    have hsl2 := (framL_len SS 16384 hSl).2
                    have hfit := hho.inv.fit
                    have hfit2 : (framL SS).length ≤ 7 * 256 := hfit
                    have hSS224 : SS.length ≤ 1000 := by omega
                    clear hho hbo HS1 HM1 HBC HDC hSl hsl2 hfit hfit2
                    go_wp2_with fail
                    refine (records_V wo HHO.out.log (by show 7 ≤ 1000; omega)).mono ?_
                    rintro e wp ⟨v1, rfl, hv1, hb1⟩
                    have HH1 := hid (HHO.out.below hb1 HBO.out.size)
                    have HS3 := hid (own_keepW HS2.out hb1)
                    have HM3 := hid (own_keepW HM2.out hb1)
                    have HBP := hid (bx_trans HBO.out hb1)
                    have hv1' : RdV wp wp.heap.size v1 SS := hv1
                    have HV1 := hid hv1'
                    clear hv1 hv1' hb1 HHO HS2 HM2 HBO
                    go_wp2_with fail
                    refine (same_V wp HV1.out (own_str HM3.out rfl) (by omega)).mono ?_
                    rintro e wq ⟨rfl, hbq⟩
                    have HH2 := hid (HH1.out.below hbq HBP.out.size)
                    have HS4 := hid (own_keepW HS3.out hbq)
                    have HM4 := hid (own_keepW HM3.out hbq)
                    have HBQ := hid (bx_trans HBP.out hbq)
                    clear hbq HV1 HH1 HS3 HM3 HBP
                    by_cases hSM : SS = M
                    · rw [show sameB SS M = true from decide_eq_true hSM]
                      rw [← hSM] at HM4
                      have HOV := HM4
                      clear HM4 HS4 hSS hSM
                      obtain ⟨Av, cv, hVe, hcv1, hcv2, _⟩ := own_form HOV.out
                      have HOV' := HOV
                      rw [hVe] at HOV'
                      have HVE := hid hVe
                      clear HOV hVe
                      go_wp2_with fail
                      refine (records_V wq HH2.out.log (by show 7 ≤ 1000; omega)).mono ?_
                      rintro e wr1 ⟨v2, rfl, hv2, hb2⟩
                      have HH3 := hid (HH2.out.below hb2 HBQ.out.size)
                      have HO3 := hid (own_keepW HOV'.out hb2)
                      have HBR := hid (bx_trans HBQ.out hb2)
                      have hv2' : RdV wr1 wr1.heap.size v2 SS := hv2
                      have HV2 := hid hv2'
                      clear hv2 hv2' hb2 HH2 HBQ HOV'
                      go_wp2_with fail
                      rw [HVE.out]
                      refine (same_V wr1 HV2.out (own_str HO3.out rfl) (by omega)).mono ?_
                      rintro e ws ⟨rfl, hbs⟩
                      rw [show sameB SS SS = true from decide_eq_true rfl]
                      have HH4 := hid (HH3.out.below hbs HBR.out.size)
                      have HO4 := hid (own_keepW HO3.out hbs)
                      have HBS := hid (bx_trans HBR.out hbs)
                      clear hbs HV2 HH3 HO3 HBR
                      go_wp2_with fail
                      refine (cOpen ws HH4.out.disk HBS.out.size (by omega) hac HLC.out HDU.out).mono ?_
                      rintro e wt ⟨gm, rfl, hhm, hbt⟩
                      rw [hsz] at hhm
                      have HH5 := hid (HH4.out.below hbt HBS.out.size)
                      have HO5 := hid (own_keepW HO4.out hbt)
                      have HBT := hid (bx_trans HBS.out hbt)
                      have HHM := hid hhm
                      have HST := hid (own_str (own_keepW HO4.out hbt) rfl)
                      clear hhm hbt HH4 HO4 HBS
                      go_wp2_with fail
                      refine wp_hold (wp_region_lit ?_)
                      refine wp_flowSE [0, 1, 3, 7, 15, 31, 63, 127, 255, 511, 1023, 2047, 4095, 8191, 16383, 32767, 65535, 131071, 262143, 524287, 1048575, 2097151, 4194303] 23 [false, false, false, false, false, false, false, false, false, false, false, false, false, false, false, false, false, false, false, false, false, false, false, false, false, false, false, false, false, false, false, false, false, false, false, false, false, false, false, false, false, false, false, false, false, false, false, false, false, false, false, false, false, false, false, false, false, false, false, false, false, false, false, false, false, false, false, false, false, false, false, false, false, false, false, false, false, false, false, false, false, false, false, false, false, false, false, false, false, false, false, false, false, false, false, false, false, false, false, false, false, false, false, false, false, false, false, false, false, false, false, false, false, false, false, false, false, false, false, false, false, false, false, false, false, false, false, false, false, false, false, false, false, false, false, false, false, false, false, false, false, false, false, false, false, false, false, false, false, false, false, false, false, false, false, false, false, false, false, false, false, false, false, false, false, true, true, true, true, true, true, true, true, true, true, true, true, true, true, true, true, true, true, true, true, true, true, true] (by kernel_rfl) (by kernel_rfl) (by kernel_rfl) [FP.eq (.int .i64 0), FP.eq (.bool false), FP.eq (.bool false), FP.eq (.pointer (some ⟨gm, 0, none⟩)), FP.rows SS, FP.eq (.slice Av SS.length cv), FP.eq (.bool true), FP.eq (.bool false), FP.eq (.bool false), FP.eq (.bool false), FP.eq (.pointer (some ⟨gm, 0, none⟩)), FP.eq (.int .i64 (SS.length : Int)), FP.eq (.slice Av SS.length cv), FP.eq (.int .i64 (SS.length : Int)), FP.eq (.bool false), FP.eq (.bool false), FP.eq (.bool false), FP.eq (.pointer (some ⟨gm, 0, none⟩)), FP.eq (.int .i64 ((7 * 256 - (framL SS).length : Nat) : Int)), FP.eq (.pointer (some ⟨glo, 0, none⟩)), FP.eq (.int .i64 ((7 * 256 - (framL SS).length : Nat) : Int)), FP.eq (.bool false), FP.eq (.bool false)] ?_ ?_
                      · refine allFrom_cons ?_ ?_
                        · intro a_ w_ hk_
                          have h18 : a_.eval (.tmp 18) = .int .i64 0 := hk_.old 18 (by kernel_rfl)
                          have hx_ := hk_.ext
                          clear hk_
                          refine flow_plain rfl ?_
                          exact gives_move rfl ⟨Below.refl _ _, h18⟩
                        refine allFrom_cons ?_ ?_
                        · intro a_ w_ hk_
                          have h165 : a_.eval (.tmp 165) = (.int .i64 0) := hk_.got 0 165 _ (by kernel_rfl) rfl rfl
                          have hx_ := hk_.ext
                          clear hk_
                          refine flow_plain rfl ?_
                          unfold gives
                          have hc_ : ∀ v, a_.eval (.const v) = v := fun _ => rfl
                          have hn_ : ∀ f, a_.eval (.func f) = .func (.func f) #[] #[] := fun _ => rfl
                          generalize a_.eval = ρ_ at *
                          go_simp
                          exact ⟨Below.refl _ _, rfl⟩
                        refine allFrom_cons ?_ ?_
                        · intro a_ w_ hk_
                          have h166 : a_.eval (.tmp 166) = (.bool false) := hk_.got 1 166 _ (by kernel_rfl) rfl rfl
                          have hx_ := hk_.ext
                          clear hk_
                          refine flow_plain rfl ?_
                          exact gives_move rfl ⟨Below.refl _ _, h166⟩
                        refine allFrom_cons ?_ ?_
                        · intro a_ w_ hk_
                          have h17 : a_.eval (.tmp 17) = .pointer (some ⟨gm, 0, none⟩) := hk_.old 17 (by kernel_rfl)
                          have hg_ : a_.eval (.tmp 167) = .bool false := hk_.got 2 167 _ (by kernel_rfl) rfl rfl
                          have hy_ := hk_.want 2 _ 167 false rfl rfl hg_
                          have hx_ := hk_.ext
                          clear hk_
                          refine flow_want rfl hy_ ?_
                          exact gives_move rfl ⟨Below.refl _ _, h17⟩
                        refine allFrom_cons ?_ ?_
                        · intro a_ w_ hk_
                          have h168 : a_.eval (.tmp 168) = (.pointer (some ⟨gm, 0, none⟩)) := hk_.got 3 168 _ (by kernel_rfl) rfl rfl
                          have hg_ : a_.eval (.tmp 167) = .bool false := hk_.got 2 167 _ (by kernel_rfl) rfl rfl
                          have hy_ := hk_.want 2 _ 167 false rfl rfl hg_
                          have hx_ := hk_.ext
                          clear hk_
                          refine flow_want rfl hy_ ?_
                          unfold gives
                          have hc_ : ∀ v, a_.eval (.const v) = v := fun _ => rfl
                          have hn_ : ∀ f, a_.eval (.func f) = .func (.func f) #[] #[] := fun _ => rfl
                          clear hy_ hg_
                          generalize a_.eval = ρ_ at *
                          go_simp
                          exact (records_V w_ (HHM.out.log.below hx_ HBT.out.size) (by show 7 ≤ 1000; omega)).mono fun e w' ⟨v, h1, h2, h3⟩ => ⟨v, h1, h3, h2⟩
                        refine allFrom_cons ?_ ?_
                        · intro a_ w_ hk_
                          have h10 : a_.eval (.tmp 10) = .slice Av SS.length cv := hk_.old 10 (by kernel_rfl)
                          have hg_ : a_.eval (.tmp 167) = .bool false := hk_.got 2 167 _ (by kernel_rfl) rfl rfl
                          have hy_ := hk_.want 2 _ 167 false rfl rfl hg_
                          have hx_ := hk_.ext
                          clear hk_
                          refine flow_want rfl hy_ ?_
                          exact gives_move rfl ⟨Below.refl _ _, h10⟩
                        refine allFrom_cons ?_ ?_
                        · intro a_ w_ hk_
                          have h169 : (FP.rows SS).p (a_.eval (.tmp 169)) w_ := hk_.got 4 169 _ (by kernel_rfl) rfl rfl
                          have h170 : a_.eval (.tmp 170) = (.slice Av SS.length cv) := hk_.got 5 170 _ (by kernel_rfl) rfl rfl
                          have hg_ : a_.eval (.tmp 167) = .bool false := hk_.got 2 167 _ (by kernel_rfl) rfl rfl
                          have hy_ := hk_.want 2 _ 167 false rfl rfl hg_
                          have hx_ := hk_.ext
                          clear hk_
                          refine flow_want rfl hy_ ?_
                          obtain ⟨A169, c169, h169, r169⟩ := h169
                          have hs_ := same_V w_ (show RdV w_ w_.heap.size (a_.eval (.tmp 169)) SS from ⟨A169, c169, h169, r169⟩) (show StrV w_ (a_.eval (.tmp 170)) SS by rw [h170]; exact HST.out.below hx_) (by omega)
                          unfold gives
                          have hc_ : ∀ v, a_.eval (.const v) = v := fun _ => rfl
                          have hn_ : ∀ f, a_.eval (.func f) = .func (.func f) #[] #[] := fun _ => rfl
                          clear h169 h170
                          generalize a_.eval = ρ_ at *
                          go_simp
                          exact hs_.mono fun e w' ⟨h1, h2⟩ => ⟨_, h1, h2, by show Value.bool _ = _; rw [show sameB SS SS = true from decide_eq_true rfl]⟩
                        refine allFrom_cons ?_ ?_
                        · intro a_ w_ hk_
                          have h171 : a_.eval (.tmp 171) = (.bool true) := hk_.got 6 171 _ (by kernel_rfl) rfl rfl
                          have hg_ : a_.eval (.tmp 167) = .bool false := hk_.got 2 167 _ (by kernel_rfl) rfl rfl
                          have hy_ := hk_.want 2 _ 167 false rfl rfl hg_
                          have hx_ := hk_.ext
                          clear hk_
                          refine flow_want rfl hy_ ?_
                          unfold gives
                          have hc_ : ∀ v, a_.eval (.const v) = v := fun _ => rfl
                          have hn_ : ∀ f, a_.eval (.func f) = .func (.func f) #[] #[] := fun _ => rfl
                          clear hy_ hg_
                          generalize a_.eval = ρ_ at *
                          go_simp
                          exact ⟨Below.refl _ _, rfl⟩
                        refine allFrom_cons ?_ ?_
                        · intro a_ w_ hk_
                          have h167 : a_.eval (.tmp 167) = (.bool false) := hk_.got 2 167 _ (by kernel_rfl) rfl rfl
                          have h172 : a_.eval (.tmp 172) = (.bool false) := hk_.got 7 172 _ (by kernel_rfl) rfl rfl
                          have hx_ := hk_.ext
                          clear hk_
                          refine flow_plain rfl ?_
                          exact gives_pick rfl h167 ⟨Below.refl _ _, h172⟩
                        refine allFrom_cons ?_ ?_
                        · intro a_ w_ hk_
                          have h173 : a_.eval (.tmp 173) = (.bool false) := hk_.got 8 173 _ (by kernel_rfl) rfl rfl
                          have hx_ := hk_.ext
                          clear hk_
                          refine flow_plain rfl ?_
                          exact gives_move rfl ⟨Below.refl _ _, h173⟩
                        refine allFrom_cons ?_ ?_
                        · intro a_ w_ hk_
                          have h17 : a_.eval (.tmp 17) = .pointer (some ⟨gm, 0, none⟩) := hk_.old 17 (by kernel_rfl)
                          have hg_ : a_.eval (.tmp 174) = .bool false := hk_.got 9 174 _ (by kernel_rfl) rfl rfl
                          have hy_ := hk_.want 9 _ 174 false rfl rfl hg_
                          have hx_ := hk_.ext
                          clear hk_
                          refine flow_want rfl hy_ ?_
                          exact gives_move rfl ⟨Below.refl _ _, h17⟩
                        refine allFrom_cons ?_ ?_
                        · intro a_ w_ hk_
                          have h175 : a_.eval (.tmp 175) = (.pointer (some ⟨gm, 0, none⟩)) := hk_.got 10 175 _ (by kernel_rfl) rfl rfl
                          have hg_ : a_.eval (.tmp 174) = .bool false := hk_.got 9 174 _ (by kernel_rfl) rfl rfl
                          have hy_ := hk_.want 9 _ 174 false rfl rfl hg_
                          have hx_ := hk_.ext
                          clear hk_
                          refine flow_want rfl hy_ ?_
                          unfold gives
                          have hc_ : ∀ v, a_.eval (.const v) = v := fun _ => rfl
                          have hn_ : ∀ f, a_.eval (.func f) = .func (.func f) #[] #[] := fun _ => rfl
                          clear hy_ hg_
                          generalize a_.eval = ρ_ at *
                          go_simp
                          exact (aSure w_ (HHM.out.log.below hx_ HBT.out.size)).mono fun e w' ⟨h1, h2⟩ => ⟨_, h1, h2 ▸ Below.refl _ _, rfl⟩
                        refine allFrom_cons ?_ ?_
                        · intro a_ w_ hk_
                          have h10 : a_.eval (.tmp 10) = .slice Av SS.length cv := hk_.old 10 (by kernel_rfl)
                          have hg_ : a_.eval (.tmp 174) = .bool false := hk_.got 9 174 _ (by kernel_rfl) rfl rfl
                          have hy_ := hk_.want 9 _ 174 false rfl rfl hg_
                          have hx_ := hk_.ext
                          clear hk_
                          refine flow_want rfl hy_ ?_
                          exact gives_move rfl ⟨Below.refl _ _, h10⟩
                        refine allFrom_cons ?_ ?_
                        · intro a_ w_ hk_
                          have h177 : a_.eval (.tmp 177) = (.slice Av SS.length cv) := hk_.got 12 177 _ (by kernel_rfl) rfl rfl
                          have hg_ : a_.eval (.tmp 174) = .bool false := hk_.got 9 174 _ (by kernel_rfl) rfl rfl
                          have hy_ := hk_.want 9 _ 174 false rfl rfl hg_
                          have hx_ := hk_.ext
                          clear hk_
                          refine flow_want rfl hy_ ?_
                          unfold gives
                          have hc_ : ∀ v, a_.eval (.const v) = v := fun _ => rfl
                          have hn_ : ∀ f, a_.eval (.func f) = .func (.func f) #[] #[] := fun _ => rfl
                          clear hy_ hg_
                          generalize a_.eval = ρ_ at *
                          go_simp
                          exact ⟨Below.refl _ _, rfl⟩
                        refine allFrom_cons ?_ ?_
                        · intro a_ w_ hk_
                          have h176 : a_.eval (.tmp 176) = (.int .i64 (SS.length : Int)) := hk_.got 11 176 _ (by kernel_rfl) rfl rfl
                          have h178 : a_.eval (.tmp 178) = (.int .i64 (SS.length : Int)) := hk_.got 13 178 _ (by kernel_rfl) rfl rfl
                          have hg_ : a_.eval (.tmp 174) = .bool false := hk_.got 9 174 _ (by kernel_rfl) rfl rfl
                          have hy_ := hk_.want 9 _ 174 false rfl rfl hg_
                          have hx_ := hk_.ext
                          clear hk_
                          refine flow_want rfl hy_ ?_
                          unfold gives
                          have hc_ : ∀ v, a_.eval (.const v) = v := fun _ => rfl
                          have hn_ : ∀ f, a_.eval (.func f) = .func (.func f) #[] #[] := fun _ => rfl
                          clear hy_ hg_
                          generalize a_.eval = ρ_ at *
                          go_simp
                          exact ⟨Below.refl _ _, rfl⟩
                        refine allFrom_cons ?_ ?_
                        · intro a_ w_ hk_
                          have h174 : a_.eval (.tmp 174) = (.bool false) := hk_.got 9 174 _ (by kernel_rfl) rfl rfl
                          have h179 : a_.eval (.tmp 179) = (.bool false) := hk_.got 14 179 _ (by kernel_rfl) rfl rfl
                          have hx_ := hk_.ext
                          clear hk_
                          refine flow_plain rfl ?_
                          exact gives_pick rfl h174 ⟨Below.refl _ _, h179⟩
                        refine allFrom_cons ?_ ?_
                        · intro a_ w_ hk_
                          have h180 : a_.eval (.tmp 180) = (.bool false) := hk_.got 15 180 _ (by kernel_rfl) rfl rfl
                          have hx_ := hk_.ext
                          clear hk_
                          refine flow_plain rfl ?_
                          exact gives_move rfl ⟨Below.refl _ _, h180⟩
                        refine allFrom_cons ?_ ?_
                        · intro a_ w_ hk_
                          have h17 : a_.eval (.tmp 17) = .pointer (some ⟨gm, 0, none⟩) := hk_.old 17 (by kernel_rfl)
                          have hg_ : a_.eval (.tmp 181) = .bool false := hk_.got 16 181 _ (by kernel_rfl) rfl rfl
                          have hy_ := hk_.want 16 _ 181 false rfl rfl hg_
                          have hx_ := hk_.ext
                          clear hk_
                          refine flow_want rfl hy_ ?_
                          exact gives_move rfl ⟨Below.refl _ _, h17⟩
                        refine allFrom_cons ?_ ?_
                        · intro a_ w_ hk_
                          have h182 : a_.eval (.tmp 182) = (.pointer (some ⟨gm, 0, none⟩)) := hk_.got 17 182 _ (by kernel_rfl) rfl rfl
                          have hg_ : a_.eval (.tmp 181) = .bool false := hk_.got 16 181 _ (by kernel_rfl) rfl rfl
                          have hy_ := hk_.want 16 _ 181 false rfl rfl hg_
                          have hx_ := hk_.ext
                          clear hk_
                          refine flow_want rfl hy_ ?_
                          unfold gives
                          have hc_ : ∀ v, a_.eval (.const v) = v := fun _ => rfl
                          have hn_ : ∀ f, a_.eval (.func f) = .func (.func f) #[] #[] := fun _ => rfl
                          clear hy_ hg_
                          generalize a_.eval = ρ_ at *
                          go_simp
                          exact (aFree w_ (HHM.out.log.below hx_ HBT.out.size) (by show 7 ≤ 1000; omega)).mono fun e w' ⟨h1, h2⟩ => ⟨_, h1, h2, rfl⟩
                        refine allFrom_cons ?_ ?_
                        · intro a_ w_ hk_
                          have h8 : a_.eval (.tmp 8) = .pointer (some ⟨glo, 0, none⟩) := hk_.old 8 (by kernel_rfl)
                          have hg_ : a_.eval (.tmp 181) = .bool false := hk_.got 16 181 _ (by kernel_rfl) rfl rfl
                          have hy_ := hk_.want 16 _ 181 false rfl rfl hg_
                          have hx_ := hk_.ext
                          clear hk_
                          refine flow_want rfl hy_ ?_
                          exact gives_move rfl ⟨Below.refl _ _, h8⟩
                        refine allFrom_cons ?_ ?_
                        · intro a_ w_ hk_
                          have h184 : a_.eval (.tmp 184) = (.pointer (some ⟨glo, 0, none⟩)) := hk_.got 19 184 _ (by kernel_rfl) rfl rfl
                          have hg_ : a_.eval (.tmp 181) = .bool false := hk_.got 16 181 _ (by kernel_rfl) rfl rfl
                          have hy_ := hk_.want 16 _ 181 false rfl rfl hg_
                          have hx_ := hk_.ext
                          clear hk_
                          refine flow_want rfl hy_ ?_
                          unfold gives
                          have hc_ : ∀ v, a_.eval (.const v) = v := fun _ => rfl
                          have hn_ : ∀ f, a_.eval (.func f) = .func (.func f) #[] #[] := fun _ => rfl
                          clear hy_ hg_
                          generalize a_.eval = ρ_ at *
                          go_simp
                          exact (aFree w_ (HH5.out.log.below hx_ HBT.out.size) (by show 7 ≤ 1000; omega)).mono fun e w' ⟨h1, h2⟩ => ⟨_, h1, h2, rfl⟩
                        refine allFrom_cons ?_ ?_
                        · intro a_ w_ hk_
                          have h183 : a_.eval (.tmp 183) = (.int .i64 ((7 * 256 - (framL SS).length : Nat) : Int)) := hk_.got 18 183 _ (by kernel_rfl) rfl rfl
                          have h185 : a_.eval (.tmp 185) = (.int .i64 ((7 * 256 - (framL SS).length : Nat) : Int)) := hk_.got 20 185 _ (by kernel_rfl) rfl rfl
                          have hg_ : a_.eval (.tmp 181) = .bool false := hk_.got 16 181 _ (by kernel_rfl) rfl rfl
                          have hy_ := hk_.want 16 _ 181 false rfl rfl hg_
                          have hx_ := hk_.ext
                          clear hk_
                          refine flow_want rfl hy_ ?_
                          unfold gives
                          have hc_ : ∀ v, a_.eval (.const v) = v := fun _ => rfl
                          have hn_ : ∀ f, a_.eval (.func f) = .func (.func f) #[] #[] := fun _ => rfl
                          clear hy_ hg_
                          generalize a_.eval = ρ_ at *
                          go_simp
                          exact ⟨Below.refl _ _, rfl⟩
                        refine allFrom_cons ?_ ?_
                        · intro a_ w_ hk_
                          have h181 : a_.eval (.tmp 181) = (.bool false) := hk_.got 16 181 _ (by kernel_rfl) rfl rfl
                          have h186 : a_.eval (.tmp 186) = (.bool false) := hk_.got 21 186 _ (by kernel_rfl) rfl rfl
                          have hx_ := hk_.ext
                          clear hk_
                          refine flow_plain rfl ?_
                          exact gives_pick rfl h181 ⟨Below.refl _ _, h186⟩
                        exact allFrom_nil
                      intro f_ w_ hx_ hf_
                      have h165 : f_ 165 = (.int .i64 0) := hf_ 0 165 _ (by decide) rfl rfl
                      have h166 : f_ 166 = (.bool false) := hf_ 1 166 _ (by decide) rfl rfl
                      have h167 : f_ 167 = (.bool false) := hf_ 2 167 _ (by decide) rfl rfl
                      have h168 : f_ 168 = (.pointer (some ⟨gm, 0, none⟩)) := hf_ 3 168 _ (by decide) rfl rfl
                      have h169 : (FP.rows SS).p (f_ 169) w_ := hf_ 4 169 _ (by decide) rfl rfl
                      have h170 : f_ 170 = (.slice Av SS.length cv) := hf_ 5 170 _ (by decide) rfl rfl
                      have h171 : f_ 171 = (.bool true) := hf_ 6 171 _ (by decide) rfl rfl
                      have h172 : f_ 172 = (.bool false) := hf_ 7 172 _ (by decide) rfl rfl
                      have h173 : f_ 173 = (.bool false) := hf_ 8 173 _ (by decide) rfl rfl
                      have h174 : f_ 174 = (.bool false) := hf_ 9 174 _ (by decide) rfl rfl
                      have h175 : f_ 175 = (.pointer (some ⟨gm, 0, none⟩)) := hf_ 10 175 _ (by decide) rfl rfl
                      have h176 : f_ 176 = (.int .i64 (SS.length : Int)) := hf_ 11 176 _ (by decide) rfl rfl
                      have h177 : f_ 177 = (.slice Av SS.length cv) := hf_ 12 177 _ (by decide) rfl rfl
                      have h178 : f_ 178 = (.int .i64 (SS.length : Int)) := hf_ 13 178 _ (by decide) rfl rfl
                      have h179 : f_ 179 = (.bool false) := hf_ 14 179 _ (by decide) rfl rfl
                      have h180 : f_ 180 = (.bool false) := hf_ 15 180 _ (by decide) rfl rfl
                      have h181 : f_ 181 = (.bool false) := hf_ 16 181 _ (by decide) rfl rfl
                      have h182 : f_ 182 = (.pointer (some ⟨gm, 0, none⟩)) := hf_ 17 182 _ (by decide) rfl rfl
                      have h183 : f_ 183 = (.int .i64 ((7 * 256 - (framL SS).length : Nat) : Int)) := hf_ 18 183 _ (by decide) rfl rfl
                      have h184 : f_ 184 = (.pointer (some ⟨glo, 0, none⟩)) := hf_ 19 184 _ (by decide) rfl rfl
                      have h185 : f_ 185 = (.int .i64 ((7 * 256 - (framL SS).length : Nat) : Int)) := hf_ 20 185 _ (by decide) rfl rfl
                      have h186 : f_ 186 = (.bool false) := hf_ 21 186 _ (by decide) rfl rfl
                      have h187 : f_ 187 = (.bool false) := hf_ 22 187 _ (by decide) rfl rfl
                      simp only [mix, h165, h166, h167, h168, h170, h171, h172, h173, h174, h175, h176, h177, h178, h179, h180, h181, h182, h183, h184, h185, h186, h187]
                      clear h165 h166 h167 h168 h170 h171 h172 h173 h174 h175 h176 h177 h178 h179 h180 h181 h182 h183 h184 h185 h186 h187
                      clear hf_
                      have HO6 := own_keepW HO5.out hx_
                      rw [← HVE.out] at HO6
                      go_wp2_with fail
                      rw [← HVE.out]
                      refine cut_leaf HKC (by kernel_rfl) ?_
                      exact ⟨glo, Dc, _, SS, rfl, ⟨HH5.out.below hx_ HBT.out.size, hnc, rfl, hT, by rw [HLC.out]; exact Nat.zero_le _, bx_trans HBT.out hx_, HO6, HO6⟩⟩
                    · rw [show sameB SS M = false from decide_eq_false hSM]
                      have hSr : SS = rs := by rcases hSS with h | h; exact h; exact absurd h hSM
                      rw [← hSr] at HS4
                      have HOV := HS4
                      clear HM4 HS4 hSS hSM hSr
                      obtain ⟨Av, cv, hVe, hcv1, hcv2, _⟩ := own_form HOV.out
                      have HOV' := HOV
                      rw [hVe] at HOV'
                      have HVE := hid hVe
                      clear HOV hVe
                      go_wp2_with fail
                      refine (records_V wq HH2.out.log (by show 7 ≤ 1000; omega)).mono ?_
                      rintro e wr1 ⟨v2, rfl, hv2, hb2⟩
                      have HH3 := hid (HH2.out.below hb2 HBQ.out.size)
                      have HO3 := hid (own_keepW HOV'.out hb2)
                      have HBR := hid (bx_trans HBQ.out hb2)
                      have hv2' : RdV wr1 wr1.heap.size v2 SS := hv2
                      have HV2 := hid hv2'
                      clear hv2 hv2' hb2 HH2 HBQ HOV'
                      go_wp2_with fail
                      rw [HVE.out]
                      refine (same_V wr1 HV2.out (own_str HO3.out rfl) (by omega)).mono ?_
                      rintro e ws ⟨rfl, hbs⟩
                      rw [show sameB SS SS = true from decide_eq_true rfl]
                      have HH4 := hid (HH3.out.below hbs HBR.out.size)
                      have HO4 := hid (own_keepW HO3.out hbs)
                      have HBS := hid (bx_trans HBR.out hbs)
                      clear hbs HV2 HH3 HO3 HBR
                      go_wp2_with fail
                      refine (cOpen ws HH4.out.disk HBS.out.size (by omega) hac HLC.out HDU.out).mono ?_
                      rintro e wt ⟨gm, rfl, hhm, hbt⟩
                      rw [hsz] at hhm
                      have HH5 := hid (HH4.out.below hbt HBS.out.size)
                      have HO5 := hid (own_keepW HO4.out hbt)
                      have HBT := hid (bx_trans HBS.out hbt)
                      have HHM := hid hhm
                      have HST := hid (own_str (own_keepW HO4.out hbt) rfl)
                      clear hhm hbt HH4 HO4 HBS
                      go_wp2_with fail
                      refine wp_hold (wp_region_lit ?_)
                      refine wp_flowSE [0, 1, 3, 7, 15, 31, 63, 127, 255, 511, 1023, 2047, 4095, 8191, 16383, 32767, 65535, 131071, 262143, 524287, 1048575, 2097151, 4194303] 23 [false, false, false, false, false, false, false, false, false, false, false, false, false, false, false, false, false, false, false, false, false, false, false, false, false, false, false, false, false, false, false, false, false, false, false, false, false, false, false, false, false, false, false, false, false, false, false, false, false, false, false, false, false, false, false, false, false, false, false, false, false, false, false, false, false, false, false, false, false, false, false, false, false, false, false, false, false, false, false, false, false, false, false, false, false, false, false, false, false, false, false, false, false, false, false, false, false, false, false, false, false, false, false, false, false, false, false, false, false, false, false, false, false, false, false, false, false, false, false, false, false, false, false, false, false, false, false, false, false, false, false, false, false, false, false, false, false, false, false, false, false, false, false, false, false, false, false, false, false, false, false, false, false, false, false, false, false, false, false, false, false, false, false, false, false, true, true, true, true, true, true, true, true, true, true, true, true, true, true, true, true, true, true, true, true, true, true, true] (by kernel_rfl) (by kernel_rfl) (by kernel_rfl) [FP.eq (.int .i64 0), FP.eq (.bool false), FP.eq (.bool false), FP.eq (.pointer (some ⟨gm, 0, none⟩)), FP.rows SS, FP.eq (.slice Av SS.length cv), FP.eq (.bool true), FP.eq (.bool false), FP.eq (.bool false), FP.eq (.bool false), FP.eq (.pointer (some ⟨gm, 0, none⟩)), FP.eq (.int .i64 (SS.length : Int)), FP.eq (.slice Av SS.length cv), FP.eq (.int .i64 (SS.length : Int)), FP.eq (.bool false), FP.eq (.bool false), FP.eq (.bool false), FP.eq (.pointer (some ⟨gm, 0, none⟩)), FP.eq (.int .i64 ((7 * 256 - (framL SS).length : Nat) : Int)), FP.eq (.pointer (some ⟨glo, 0, none⟩)), FP.eq (.int .i64 ((7 * 256 - (framL SS).length : Nat) : Int)), FP.eq (.bool false), FP.eq (.bool false)] ?_ ?_
                      · refine allFrom_cons ?_ ?_
                        · intro a_ w_ hk_
                          have h18 : a_.eval (.tmp 18) = .int .i64 0 := hk_.old 18 (by kernel_rfl)
                          have hx_ := hk_.ext
                          clear hk_
                          refine flow_plain rfl ?_
                          exact gives_move rfl ⟨Below.refl _ _, h18⟩
                        refine allFrom_cons ?_ ?_
                        · intro a_ w_ hk_
                          have h165 : a_.eval (.tmp 165) = (.int .i64 0) := hk_.got 0 165 _ (by kernel_rfl) rfl rfl
                          have hx_ := hk_.ext
                          clear hk_
                          refine flow_plain rfl ?_
                          unfold gives
                          have hc_ : ∀ v, a_.eval (.const v) = v := fun _ => rfl
                          have hn_ : ∀ f, a_.eval (.func f) = .func (.func f) #[] #[] := fun _ => rfl
                          generalize a_.eval = ρ_ at *
                          go_simp
                          exact ⟨Below.refl _ _, rfl⟩
                        refine allFrom_cons ?_ ?_
                        · intro a_ w_ hk_
                          have h166 : a_.eval (.tmp 166) = (.bool false) := hk_.got 1 166 _ (by kernel_rfl) rfl rfl
                          have hx_ := hk_.ext
                          clear hk_
                          refine flow_plain rfl ?_
                          exact gives_move rfl ⟨Below.refl _ _, h166⟩
                        refine allFrom_cons ?_ ?_
                        · intro a_ w_ hk_
                          have h17 : a_.eval (.tmp 17) = .pointer (some ⟨gm, 0, none⟩) := hk_.old 17 (by kernel_rfl)
                          have hg_ : a_.eval (.tmp 167) = .bool false := hk_.got 2 167 _ (by kernel_rfl) rfl rfl
                          have hy_ := hk_.want 2 _ 167 false rfl rfl hg_
                          have hx_ := hk_.ext
                          clear hk_
                          refine flow_want rfl hy_ ?_
                          exact gives_move rfl ⟨Below.refl _ _, h17⟩
                        refine allFrom_cons ?_ ?_
                        · intro a_ w_ hk_
                          have h168 : a_.eval (.tmp 168) = (.pointer (some ⟨gm, 0, none⟩)) := hk_.got 3 168 _ (by kernel_rfl) rfl rfl
                          have hg_ : a_.eval (.tmp 167) = .bool false := hk_.got 2 167 _ (by kernel_rfl) rfl rfl
                          have hy_ := hk_.want 2 _ 167 false rfl rfl hg_
                          have hx_ := hk_.ext
                          clear hk_
                          refine flow_want rfl hy_ ?_
                          unfold gives
                          have hc_ : ∀ v, a_.eval (.const v) = v := fun _ => rfl
                          have hn_ : ∀ f, a_.eval (.func f) = .func (.func f) #[] #[] := fun _ => rfl
                          clear hy_ hg_
                          generalize a_.eval = ρ_ at *
                          go_simp
                          exact (records_V w_ (HHM.out.log.below hx_ HBT.out.size) (by show 7 ≤ 1000; omega)).mono fun e w' ⟨v, h1, h2, h3⟩ => ⟨v, h1, h3, h2⟩
                        refine allFrom_cons ?_ ?_
                        · intro a_ w_ hk_
                          have h10 : a_.eval (.tmp 10) = .slice Av SS.length cv := hk_.old 10 (by kernel_rfl)
                          have hg_ : a_.eval (.tmp 167) = .bool false := hk_.got 2 167 _ (by kernel_rfl) rfl rfl
                          have hy_ := hk_.want 2 _ 167 false rfl rfl hg_
                          have hx_ := hk_.ext
                          clear hk_
                          refine flow_want rfl hy_ ?_
                          exact gives_move rfl ⟨Below.refl _ _, h10⟩
                        refine allFrom_cons ?_ ?_
                        · intro a_ w_ hk_
                          have h169 : (FP.rows SS).p (a_.eval (.tmp 169)) w_ := hk_.got 4 169 _ (by kernel_rfl) rfl rfl
                          have h170 : a_.eval (.tmp 170) = (.slice Av SS.length cv) := hk_.got 5 170 _ (by kernel_rfl) rfl rfl
                          have hg_ : a_.eval (.tmp 167) = .bool false := hk_.got 2 167 _ (by kernel_rfl) rfl rfl
                          have hy_ := hk_.want 2 _ 167 false rfl rfl hg_
                          have hx_ := hk_.ext
                          clear hk_
                          refine flow_want rfl hy_ ?_
                          obtain ⟨A169, c169, h169, r169⟩ := h169
                          have hs_ := same_V w_ (show RdV w_ w_.heap.size (a_.eval (.tmp 169)) SS from ⟨A169, c169, h169, r169⟩) (show StrV w_ (a_.eval (.tmp 170)) SS by rw [h170]; exact HST.out.below hx_) (by omega)
                          unfold gives
                          have hc_ : ∀ v, a_.eval (.const v) = v := fun _ => rfl
                          have hn_ : ∀ f, a_.eval (.func f) = .func (.func f) #[] #[] := fun _ => rfl
                          clear h169 h170
                          generalize a_.eval = ρ_ at *
                          go_simp
                          exact hs_.mono fun e w' ⟨h1, h2⟩ => ⟨_, h1, h2, by show Value.bool _ = _; rw [show sameB SS SS = true from decide_eq_true rfl]⟩
                        refine allFrom_cons ?_ ?_
                        · intro a_ w_ hk_
                          have h171 : a_.eval (.tmp 171) = (.bool true) := hk_.got 6 171 _ (by kernel_rfl) rfl rfl
                          have hg_ : a_.eval (.tmp 167) = .bool false := hk_.got 2 167 _ (by kernel_rfl) rfl rfl
                          have hy_ := hk_.want 2 _ 167 false rfl rfl hg_
                          have hx_ := hk_.ext
                          clear hk_
                          refine flow_want rfl hy_ ?_
                          unfold gives
                          have hc_ : ∀ v, a_.eval (.const v) = v := fun _ => rfl
                          have hn_ : ∀ f, a_.eval (.func f) = .func (.func f) #[] #[] := fun _ => rfl
                          clear hy_ hg_
                          generalize a_.eval = ρ_ at *
                          go_simp
                          exact ⟨Below.refl _ _, rfl⟩
                        refine allFrom_cons ?_ ?_
                        · intro a_ w_ hk_
                          have h167 : a_.eval (.tmp 167) = (.bool false) := hk_.got 2 167 _ (by kernel_rfl) rfl rfl
                          have h172 : a_.eval (.tmp 172) = (.bool false) := hk_.got 7 172 _ (by kernel_rfl) rfl rfl
                          have hx_ := hk_.ext
                          clear hk_
                          refine flow_plain rfl ?_
                          exact gives_pick rfl h167 ⟨Below.refl _ _, h172⟩
                        refine allFrom_cons ?_ ?_
                        · intro a_ w_ hk_
                          have h173 : a_.eval (.tmp 173) = (.bool false) := hk_.got 8 173 _ (by kernel_rfl) rfl rfl
                          have hx_ := hk_.ext
                          clear hk_
                          refine flow_plain rfl ?_
                          exact gives_move rfl ⟨Below.refl _ _, h173⟩
                        refine allFrom_cons ?_ ?_
                        · intro a_ w_ hk_
                          have h17 : a_.eval (.tmp 17) = .pointer (some ⟨gm, 0, none⟩) := hk_.old 17 (by kernel_rfl)
                          have hg_ : a_.eval (.tmp 174) = .bool false := hk_.got 9 174 _ (by kernel_rfl) rfl rfl
                          have hy_ := hk_.want 9 _ 174 false rfl rfl hg_
                          have hx_ := hk_.ext
                          clear hk_
                          refine flow_want rfl hy_ ?_
                          exact gives_move rfl ⟨Below.refl _ _, h17⟩
                        refine allFrom_cons ?_ ?_
                        · intro a_ w_ hk_
                          have h175 : a_.eval (.tmp 175) = (.pointer (some ⟨gm, 0, none⟩)) := hk_.got 10 175 _ (by kernel_rfl) rfl rfl
                          have hg_ : a_.eval (.tmp 174) = .bool false := hk_.got 9 174 _ (by kernel_rfl) rfl rfl
                          have hy_ := hk_.want 9 _ 174 false rfl rfl hg_
                          have hx_ := hk_.ext
                          clear hk_
                          refine flow_want rfl hy_ ?_
                          unfold gives
                          have hc_ : ∀ v, a_.eval (.const v) = v := fun _ => rfl
                          have hn_ : ∀ f, a_.eval (.func f) = .func (.func f) #[] #[] := fun _ => rfl
                          clear hy_ hg_
                          generalize a_.eval = ρ_ at *
                          go_simp
                          exact (aSure w_ (HHM.out.log.below hx_ HBT.out.size)).mono fun e w' ⟨h1, h2⟩ => ⟨_, h1, h2 ▸ Below.refl _ _, rfl⟩
                        refine allFrom_cons ?_ ?_
                        · intro a_ w_ hk_
                          have h10 : a_.eval (.tmp 10) = .slice Av SS.length cv := hk_.old 10 (by kernel_rfl)
                          have hg_ : a_.eval (.tmp 174) = .bool false := hk_.got 9 174 _ (by kernel_rfl) rfl rfl
                          have hy_ := hk_.want 9 _ 174 false rfl rfl hg_
                          have hx_ := hk_.ext
                          clear hk_
                          refine flow_want rfl hy_ ?_
                          exact gives_move rfl ⟨Below.refl _ _, h10⟩
                        refine allFrom_cons ?_ ?_
                        · intro a_ w_ hk_
                          have h177 : a_.eval (.tmp 177) = (.slice Av SS.length cv) := hk_.got 12 177 _ (by kernel_rfl) rfl rfl
                          have hg_ : a_.eval (.tmp 174) = .bool false := hk_.got 9 174 _ (by kernel_rfl) rfl rfl
                          have hy_ := hk_.want 9 _ 174 false rfl rfl hg_
                          have hx_ := hk_.ext
                          clear hk_
                          refine flow_want rfl hy_ ?_
                          unfold gives
                          have hc_ : ∀ v, a_.eval (.const v) = v := fun _ => rfl
                          have hn_ : ∀ f, a_.eval (.func f) = .func (.func f) #[] #[] := fun _ => rfl
                          clear hy_ hg_
                          generalize a_.eval = ρ_ at *
                          go_simp
                          exact ⟨Below.refl _ _, rfl⟩
                        refine allFrom_cons ?_ ?_
                        · intro a_ w_ hk_
                          have h176 : a_.eval (.tmp 176) = (.int .i64 (SS.length : Int)) := hk_.got 11 176 _ (by kernel_rfl) rfl rfl
                          have h178 : a_.eval (.tmp 178) = (.int .i64 (SS.length : Int)) := hk_.got 13 178 _ (by kernel_rfl) rfl rfl
                          have hg_ : a_.eval (.tmp 174) = .bool false := hk_.got 9 174 _ (by kernel_rfl) rfl rfl
                          have hy_ := hk_.want 9 _ 174 false rfl rfl hg_
                          have hx_ := hk_.ext
                          clear hk_
                          refine flow_want rfl hy_ ?_
                          unfold gives
                          have hc_ : ∀ v, a_.eval (.const v) = v := fun _ => rfl
                          have hn_ : ∀ f, a_.eval (.func f) = .func (.func f) #[] #[] := fun _ => rfl
                          clear hy_ hg_
                          generalize a_.eval = ρ_ at *
                          go_simp
                          exact ⟨Below.refl _ _, rfl⟩
                        refine allFrom_cons ?_ ?_
                        · intro a_ w_ hk_
                          have h174 : a_.eval (.tmp 174) = (.bool false) := hk_.got 9 174 _ (by kernel_rfl) rfl rfl
                          have h179 : a_.eval (.tmp 179) = (.bool false) := hk_.got 14 179 _ (by kernel_rfl) rfl rfl
                          have hx_ := hk_.ext
                          clear hk_
                          refine flow_plain rfl ?_
                          exact gives_pick rfl h174 ⟨Below.refl _ _, h179⟩
                        refine allFrom_cons ?_ ?_
                        · intro a_ w_ hk_
                          have h180 : a_.eval (.tmp 180) = (.bool false) := hk_.got 15 180 _ (by kernel_rfl) rfl rfl
                          have hx_ := hk_.ext
                          clear hk_
                          refine flow_plain rfl ?_
                          exact gives_move rfl ⟨Below.refl _ _, h180⟩
                        refine allFrom_cons ?_ ?_
                        · intro a_ w_ hk_
                          have h17 : a_.eval (.tmp 17) = .pointer (some ⟨gm, 0, none⟩) := hk_.old 17 (by kernel_rfl)
                          have hg_ : a_.eval (.tmp 181) = .bool false := hk_.got 16 181 _ (by kernel_rfl) rfl rfl
                          have hy_ := hk_.want 16 _ 181 false rfl rfl hg_
                          have hx_ := hk_.ext
                          clear hk_
                          refine flow_want rfl hy_ ?_
                          exact gives_move rfl ⟨Below.refl _ _, h17⟩
                        refine allFrom_cons ?_ ?_
                        · intro a_ w_ hk_
                          have h182 : a_.eval (.tmp 182) = (.pointer (some ⟨gm, 0, none⟩)) := hk_.got 17 182 _ (by kernel_rfl) rfl rfl
                          have hg_ : a_.eval (.tmp 181) = .bool false := hk_.got 16 181 _ (by kernel_rfl) rfl rfl
                          have hy_ := hk_.want 16 _ 181 false rfl rfl hg_
                          have hx_ := hk_.ext
                          clear hk_
                          refine flow_want rfl hy_ ?_
                          unfold gives
                          have hc_ : ∀ v, a_.eval (.const v) = v := fun _ => rfl
                          have hn_ : ∀ f, a_.eval (.func f) = .func (.func f) #[] #[] := fun _ => rfl
                          clear hy_ hg_
                          generalize a_.eval = ρ_ at *
                          go_simp
                          exact (aFree w_ (HHM.out.log.below hx_ HBT.out.size) (by show 7 ≤ 1000; omega)).mono fun e w' ⟨h1, h2⟩ => ⟨_, h1, h2, rfl⟩
                        refine allFrom_cons ?_ ?_
                        · intro a_ w_ hk_
                          have h8 : a_.eval (.tmp 8) = .pointer (some ⟨glo, 0, none⟩) := hk_.old 8 (by kernel_rfl)
                          have hg_ : a_.eval (.tmp 181) = .bool false := hk_.got 16 181 _ (by kernel_rfl) rfl rfl
                          have hy_ := hk_.want 16 _ 181 false rfl rfl hg_
                          have hx_ := hk_.ext
                          clear hk_
                          refine flow_want rfl hy_ ?_
                          exact gives_move rfl ⟨Below.refl _ _, h8⟩
                        refine allFrom_cons ?_ ?_
                        · intro a_ w_ hk_
                          have h184 : a_.eval (.tmp 184) = (.pointer (some ⟨glo, 0, none⟩)) := hk_.got 19 184 _ (by kernel_rfl) rfl rfl
                          have hg_ : a_.eval (.tmp 181) = .bool false := hk_.got 16 181 _ (by kernel_rfl) rfl rfl
                          have hy_ := hk_.want 16 _ 181 false rfl rfl hg_
                          have hx_ := hk_.ext
                          clear hk_
                          refine flow_want rfl hy_ ?_
                          unfold gives
                          have hc_ : ∀ v, a_.eval (.const v) = v := fun _ => rfl
                          have hn_ : ∀ f, a_.eval (.func f) = .func (.func f) #[] #[] := fun _ => rfl
                          clear hy_ hg_
                          generalize a_.eval = ρ_ at *
                          go_simp
                          exact (aFree w_ (HH5.out.log.below hx_ HBT.out.size) (by show 7 ≤ 1000; omega)).mono fun e w' ⟨h1, h2⟩ => ⟨_, h1, h2, rfl⟩
                        refine allFrom_cons ?_ ?_
                        · intro a_ w_ hk_
                          have h183 : a_.eval (.tmp 183) = (.int .i64 ((7 * 256 - (framL SS).length : Nat) : Int)) := hk_.got 18 183 _ (by kernel_rfl) rfl rfl
                          have h185 : a_.eval (.tmp 185) = (.int .i64 ((7 * 256 - (framL SS).length : Nat) : Int)) := hk_.got 20 185 _ (by kernel_rfl) rfl rfl
                          have hg_ : a_.eval (.tmp 181) = .bool false := hk_.got 16 181 _ (by kernel_rfl) rfl rfl
                          have hy_ := hk_.want 16 _ 181 false rfl rfl hg_
                          have hx_ := hk_.ext
                          clear hk_
                          refine flow_want rfl hy_ ?_
                          unfold gives
                          have hc_ : ∀ v, a_.eval (.const v) = v := fun _ => rfl
                          have hn_ : ∀ f, a_.eval (.func f) = .func (.func f) #[] #[] := fun _ => rfl
                          clear hy_ hg_
                          generalize a_.eval = ρ_ at *
                          go_simp
                          exact ⟨Below.refl _ _, rfl⟩
                        refine allFrom_cons ?_ ?_
                        · intro a_ w_ hk_
                          have h181 : a_.eval (.tmp 181) = (.bool false) := hk_.got 16 181 _ (by kernel_rfl) rfl rfl
                          have h186 : a_.eval (.tmp 186) = (.bool false) := hk_.got 21 186 _ (by kernel_rfl) rfl rfl
                          have hx_ := hk_.ext
                          clear hk_
                          refine flow_plain rfl ?_
                          exact gives_pick rfl h181 ⟨Below.refl _ _, h186⟩
                        exact allFrom_nil
                      intro f_ w_ hx_ hf_
                      have h165 : f_ 165 = (.int .i64 0) := hf_ 0 165 _ (by decide) rfl rfl
                      have h166 : f_ 166 = (.bool false) := hf_ 1 166 _ (by decide) rfl rfl
                      have h167 : f_ 167 = (.bool false) := hf_ 2 167 _ (by decide) rfl rfl
                      have h168 : f_ 168 = (.pointer (some ⟨gm, 0, none⟩)) := hf_ 3 168 _ (by decide) rfl rfl
                      have h169 : (FP.rows SS).p (f_ 169) w_ := hf_ 4 169 _ (by decide) rfl rfl
                      have h170 : f_ 170 = (.slice Av SS.length cv) := hf_ 5 170 _ (by decide) rfl rfl
                      have h171 : f_ 171 = (.bool true) := hf_ 6 171 _ (by decide) rfl rfl
                      have h172 : f_ 172 = (.bool false) := hf_ 7 172 _ (by decide) rfl rfl
                      have h173 : f_ 173 = (.bool false) := hf_ 8 173 _ (by decide) rfl rfl
                      have h174 : f_ 174 = (.bool false) := hf_ 9 174 _ (by decide) rfl rfl
                      have h175 : f_ 175 = (.pointer (some ⟨gm, 0, none⟩)) := hf_ 10 175 _ (by decide) rfl rfl
                      have h176 : f_ 176 = (.int .i64 (SS.length : Int)) := hf_ 11 176 _ (by decide) rfl rfl
                      have h177 : f_ 177 = (.slice Av SS.length cv) := hf_ 12 177 _ (by decide) rfl rfl
                      have h178 : f_ 178 = (.int .i64 (SS.length : Int)) := hf_ 13 178 _ (by decide) rfl rfl
                      have h179 : f_ 179 = (.bool false) := hf_ 14 179 _ (by decide) rfl rfl
                      have h180 : f_ 180 = (.bool false) := hf_ 15 180 _ (by decide) rfl rfl
                      have h181 : f_ 181 = (.bool false) := hf_ 16 181 _ (by decide) rfl rfl
                      have h182 : f_ 182 = (.pointer (some ⟨gm, 0, none⟩)) := hf_ 17 182 _ (by decide) rfl rfl
                      have h183 : f_ 183 = (.int .i64 ((7 * 256 - (framL SS).length : Nat) : Int)) := hf_ 18 183 _ (by decide) rfl rfl
                      have h184 : f_ 184 = (.pointer (some ⟨glo, 0, none⟩)) := hf_ 19 184 _ (by decide) rfl rfl
                      have h185 : f_ 185 = (.int .i64 ((7 * 256 - (framL SS).length : Nat) : Int)) := hf_ 20 185 _ (by decide) rfl rfl
                      have h186 : f_ 186 = (.bool false) := hf_ 21 186 _ (by decide) rfl rfl
                      have h187 : f_ 187 = (.bool false) := hf_ 22 187 _ (by decide) rfl rfl
                      simp only [mix, h165, h166, h167, h168, h170, h171, h172, h173, h174, h175, h176, h177, h178, h179, h180, h181, h182, h183, h184, h185, h186, h187]
                      clear h165 h166 h167 h168 h170 h171 h172 h173 h174 h175 h176 h177 h178 h179 h180 h181 h182 h183 h184 h185 h186 h187
                      clear hf_
                      have HO6 := own_keepW HO5.out hx_
                      rw [← HVE.out] at HO6
                      go_wp2_with fail
                      rw [← HVE.out]
                      refine cut_leaf HKC (by kernel_rfl) ?_
                      exact ⟨glo, Dc, _, SS, rfl, ⟨HH5.out.below hx_ HBT.out.size, hnc, rfl, hT, by rw [HLC.out]; exact Nat.zero_le _, bx_trans HBT.out hx_, HO6, HO6⟩⟩
                  · have e30 : (f == 30) = false := by simpa using hf30
                    obtain rfl : kk = 7 := by rcases hfk with h | h; exact absurd h hf30; exact h
                    clear hfk hf30
                    go_wp2_with fail
                    refine wp_hold (wp_region_lit ?_)
                    refine wp_flowSE [0, 1, 3, 7, 15, 31, 63, 127] 8 [false, false, false, false, false, false, false, false, false, false, false, false, false, false, false, false, false, false, false, false, false, false, false, false, false, false, false, false, false, false, false, false, false, false, false, false, false, false, false, false, false, false, false, false, false, false, false, false, false, false, false, false, false, false, false, false, false, false, false, false, false, false, false, false, false, false, false, false, false, false, false, false, false, false, false, false, false, false, false, false, false, false, false, false, false, false, false, false, false, false, false, false, false, false, false, false, false, false, false, false, false, false, false, false, false, false, false, false, false, false, false, false, false, false, false, false, false, false, false, false, false, false, false, false, false, false, false, false, true, true, true, true, true, true, true, true] (by kernel_rfl) (by kernel_rfl) (by kernel_rfl) [FP.eq (.int .i64 f), FP.eq (.bool false), FP.eq (.bool false), FP.eq (.pointer (some ⟨gA, 0, none⟩)), FP.eq (.int .i64 a.kind), FP.eq (.int .i64 7), FP.eq (.bool true), FP.eq (.bool true)] ?_ ?_
                    · refine allFrom_cons ?_ ?_
                      · intro a_ w_ hk_
                        have h16 : a_.eval (.tmp 16) = .int .i64 f := hk_.old 16 (by kernel_rfl)
                        have hx_ := hk_.ext
                        clear hk_
                        refine flow_plain rfl ?_
                        exact gives_move rfl ⟨Below.refl _ _, h16⟩
                      refine allFrom_cons ?_ ?_
                      · intro a_ w_ hk_
                        have h128 : a_.eval (.tmp 128) = (.int .i64 f) := hk_.got 0 128 _ (by kernel_rfl) rfl rfl
                        have hx_ := hk_.ext
                        clear hk_
                        refine flow_plain rfl ?_
                        unfold gives
                        have hc_ : ∀ v, a_.eval (.const v) = v := fun _ => rfl
                        have hn_ : ∀ f, a_.eval (.func f) = .func (.func f) #[] #[] := fun _ => rfl
                        generalize a_.eval = ρ_ at *
                        go_simp
                        exact ⟨Below.refl _ _, rfl⟩
                      refine allFrom_cons ?_ ?_
                      · intro a_ w_ hk_
                        have h129 : a_.eval (.tmp 129) = (.bool false) := hk_.got 1 129 _ (by kernel_rfl) rfl rfl
                        have hx_ := hk_.ext
                        clear hk_
                        refine flow_plain rfl ?_
                        exact gives_move rfl ⟨Below.refl _ _, h129⟩
                      refine allFrom_cons ?_ ?_
                      · intro a_ w_ hk_
                        have h13 : a_.eval (.tmp 13) = .pointer (some ⟨gA, 0, none⟩) := hk_.old 13 (by kernel_rfl)
                        have hg_ : a_.eval (.tmp 130) = .bool false := hk_.got 2 130 _ (by kernel_rfl) rfl rfl
                        have hy_ := hk_.want 2 _ 130 false rfl rfl hg_
                        have hx_ := hk_.ext
                        clear hk_
                        refine flow_want rfl hy_ ?_
                        unfold gives
                        have hc_ : ∀ v, a_.eval (.const v) = v := fun _ => rfl
                        have hn_ : ∀ f, a_.eval (.func f) = .func (.func f) #[] #[] := fun _ => rfl
                        clear hy_ hg_
                        generalize a_.eval = ρ_ at *
                        go_simp
                        exact ⟨Below.refl _ _, rfl⟩
                      refine allFrom_cons ?_ ?_
                      · intro a_ w_ hk_
                        have h131 : a_.eval (.tmp 131) = (.pointer (some ⟨gA, 0, none⟩)) := hk_.got 3 131 _ (by kernel_rfl) rfl rfl
                        have hg_ : a_.eval (.tmp 130) = .bool false := hk_.got 2 130 _ (by kernel_rfl) rfl rfl
                        have hy_ := hk_.want 2 _ 130 false rfl rfl hg_
                        have hx_ := hk_.ext
                        clear hk_
                        refine flow_want rfl hy_ ?_
                        unfold gives
                        have hc_ : ∀ v, a_.eval (.const v) = v := fun _ => rfl
                        have hn_ : ∀ f, a_.eval (.func f) = .func (.func f) #[] #[] := fun _ => rfl
                        clear hy_ hg_
                        have hcell := (hx_.cell (p := ⟨gA, 0, none⟩) lgA9).trans c0'
                        generalize a_.eval = ρ_ at *
                        go_simp
                        exact ⟨Below.refl _ _, rfl⟩
                      refine allFrom_cons ?_ ?_
                      · intro a_ w_ hk_
                        have h132 : a_.eval (.tmp 132) = (.int .i64 a.kind) := hk_.got 4 132 _ (by kernel_rfl) rfl rfl
                        have hg_ : a_.eval (.tmp 130) = .bool false := hk_.got 2 130 _ (by kernel_rfl) rfl rfl
                        have hy_ := hk_.want 2 _ 130 false rfl rfl hg_
                        have hx_ := hk_.ext
                        clear hk_
                        refine flow_want rfl hy_ ?_
                        unfold gives
                        have hc_ : ∀ v, a_.eval (.const v) = v := fun _ => rfl
                        have hn_ : ∀ f, a_.eval (.func f) = .func (.func f) #[] #[] := fun _ => rfl
                        clear hy_ hg_
                        generalize a_.eval = ρ_ at *
                        go_simp
                        exact ⟨Below.refl _ _, rfl⟩
                      refine allFrom_cons ?_ ?_
                      · intro a_ w_ hk_
                        have h133 : a_.eval (.tmp 133) = (.int .i64 7) := hk_.got 5 133 _ (by kernel_rfl) rfl rfl
                        have hg_ : a_.eval (.tmp 130) = .bool false := hk_.got 2 130 _ (by kernel_rfl) rfl rfl
                        have hy_ := hk_.want 2 _ 130 false rfl rfl hg_
                        have hx_ := hk_.ext
                        clear hk_
                        refine flow_want rfl hy_ ?_
                        unfold gives
                        have hc_ : ∀ v, a_.eval (.const v) = v := fun _ => rfl
                        have hn_ : ∀ f, a_.eval (.func f) = .func (.func f) #[] #[] := fun _ => rfl
                        clear hy_ hg_
                        generalize a_.eval = ρ_ at *
                        go_simp
                        exact ⟨Below.refl _ _, rfl⟩
                      refine allFrom_cons ?_ ?_
                      · intro a_ w_ hk_
                        have h130 : a_.eval (.tmp 130) = (.bool false) := hk_.got 2 130 _ (by kernel_rfl) rfl rfl
                        have h134 : a_.eval (.tmp 134) = (.bool true) := hk_.got 6 134 _ (by kernel_rfl) rfl rfl
                        have hx_ := hk_.ext
                        clear hk_
                        refine flow_plain rfl ?_
                        exact gives_pick rfl h130 ⟨Below.refl _ _, h134⟩
                      exact allFrom_nil
                    intro f_ w_ hx_ hf_
                    have h128 : f_ 128 = (.int .i64 f) := hf_ 0 128 _ (by decide) rfl rfl
                    have h129 : f_ 129 = (.bool false) := hf_ 1 129 _ (by decide) rfl rfl
                    have h130 : f_ 130 = (.bool false) := hf_ 2 130 _ (by decide) rfl rfl
                    have h131 : f_ 131 = (.pointer (some ⟨gA, 0, none⟩)) := hf_ 3 131 _ (by decide) rfl rfl
                    have h132 : f_ 132 = (.int .i64 a.kind) := hf_ 4 132 _ (by decide) rfl rfl
                    have h133 : f_ 133 = (.int .i64 7) := hf_ 5 133 _ (by decide) rfl rfl
                    have h134 : f_ 134 = (.bool true) := hf_ 6 134 _ (by decide) rfl rfl
                    have h135 : f_ 135 = (.bool true) := hf_ 7 135 _ (by decide) rfl rfl
                    simp only [mix, h128, h129, h130, h131, h132, h133, h134, h135]
                    clear h128 h129 h130 h131 h132 h133 h134 h135
                    clear hf_
                    have HD := hid (HDN.out.below' hx_)
                    have HBWc := hid (bx_trans HBW9.out hx_)
                    obtain ⟨wc0, hwc0⟩ : ∃ wc0, wc0 = w_ := ⟨_, rfl⟩
                    rw [← hwc0] at hx_ HD HBWc ⊢
                    clear hwc0 HDN HSW hx_ HB9 HBW9 hand7 c0' lgA9
                    have hcF := (HBWc.out.cell (p := ⟨bf, offf + i, none⟩) hbf).trans HCF.out
                    have hi1 : (i : Int) < (fronts.length : Int) := by omega
                    go_wp2_with fail
                    refine (Crash_any wc0 (front := fr) HD.out.disk (Kp.of_below (HRX.out.below HBWc.out) hB0) (Nat.le_trans hB0 HD.out.below.size) HSX.out).mono ?_
                    rintro e wc ⟨rfl, hdc, hfc⟩
                    obtain ⟨T, aa, SS, hT, hSS, hdur⟩ := HD.out.dur fr
                    have hs1 := own_dfr HD.out.s hfc (by decide) (by decide)
                    have hm1 := own_dfr HD.out.m hfc (by decide) (by decide)
                    have hbc := HD.out.below.trans hfc.below
                    have hsz : sizeD (crashD D fr) = 7 := by show (D.n - 2) / 2 = 7; rw [HD.out.n]
                    have hnc : (crashD D fr).n = 16 := HD.out.n
                    have hlc : (crashD D fr).loose = [] := rfl
                    have hac : (crashD D fr).dead = false := rfl
                    obtain ⟨Dc, hDc⟩ : ∃ Dc, Dc = crashD D fr := ⟨_, rfl⟩
                    rw [← hDc] at hdc hdur hsz hnc hlc hac
                    rw [← hsz] at hdur
                    have HDU := hid hdur
                    have HDC := hid hdc
                    have HS1 := hid hs1
                    have HM1 := hid hm1
                    have HBC := hid hbc
                    have HLC := hid hlc
                    clear hdur hdc hs1 hm1 hbc hfc HD HBWc hcF hDc hlc
                    go_wp2_with fail
                    refine (cOpen wc HDC.out HBC.out.size (by omega) hac HLC.out HDU.out).mono ?_
                    rintro e wo ⟨glo, rfl, hho, hbo⟩
                    rw [hsz] at hho
                    have HS2 := hid (own_keepW HS1.out hbo)
                    have HM2 := hid (own_keepW HM1.out hbo)
                    have HBO := hid (bx_trans HBC.out hbo)
                    have HHO := hid hho
                    have hSl := hho.inv.short
                    have hsl2 := (framL_len SS 16384 hSl).2
                    have hfit := hho.inv.fit
                    have hfit2 : (framL SS).length ≤ 7 * 256 := hfit
                    have hSS224 : SS.length ≤ 1000 := by omega
                    clear hho hbo HS1 HM1 HBC HDC hSl hsl2 hfit hfit2
                    go_wp2_with fail
                    refine (records_V wo HHO.out.log (by show 7 ≤ 1000; omega)).mono ?_
                    rintro e wp ⟨v1, rfl, hv1, hb1⟩
                    have HH1 := hid (HHO.out.below hb1 HBO.out.size)
                    have HS3 := hid (own_keepW HS2.out hb1)
                    have HM3 := hid (own_keepW HM2.out hb1)
                    have HBP := hid (bx_trans HBO.out hb1)
                    have hv1' : RdV wp wp.heap.size v1 SS := hv1
                    have HV1 := hid hv1'
                    clear hv1 hv1' hb1 HHO HS2 HM2 HBO
                    go_wp2_with fail
                    refine (same_V wp HV1.out (own_str HM3.out rfl) (by omega)).mono ?_
                    rintro e wq ⟨rfl, hbq⟩
                    have HH2 := hid (HH1.out.below hbq HBP.out.size)
                    have HS4 := hid (own_keepW HS3.out hbq)
                    have HM4 := hid (own_keepW HM3.out hbq)
                    have HBQ := hid (bx_trans HBP.out hbq)
                    clear hbq HV1 HH1 HS3 HM3 HBP
                    by_cases hSM : SS = M
                    · rw [show sameB SS M = true from decide_eq_true hSM]
                      rw [← hSM] at HM4
                      have HOV := HM4
                      clear HM4 HS4 hSS hSM
                      obtain ⟨Av, cv, hVe, hcv1, hcv2, _⟩ := own_form HOV.out
                      have HOV' := HOV
                      rw [hVe] at HOV'
                      have HVE := hid hVe
                      clear HOV hVe
                      go_wp2_with fail
                      refine (records_V wq HH2.out.log (by show 7 ≤ 1000; omega)).mono ?_
                      rintro e wr1 ⟨v2, rfl, hv2, hb2⟩
                      have HH3 := hid (HH2.out.below hb2 HBQ.out.size)
                      have HO3 := hid (own_keepW HOV'.out hb2)
                      have HBR := hid (bx_trans HBQ.out hb2)
                      have hv2' : RdV wr1 wr1.heap.size v2 SS := hv2
                      have HV2 := hid hv2'
                      clear hv2 hv2' hb2 HH2 HBQ HOV'
                      go_wp2_with fail
                      rw [HVE.out]
                      refine (same_V wr1 HV2.out (own_str HO3.out rfl) (by omega)).mono ?_
                      rintro e ws ⟨rfl, hbs⟩
                      rw [show sameB SS SS = true from decide_eq_true rfl]
                      have HH4 := hid (HH3.out.below hbs HBR.out.size)
                      have HO4 := hid (own_keepW HO3.out hbs)
                      have HBS := hid (bx_trans HBR.out hbs)
                      clear hbs HV2 HH3 HO3 HBR
                      go_wp2_with fail
                      refine (cOpen ws HH4.out.disk HBS.out.size (by omega) hac HLC.out HDU.out).mono ?_
                      rintro e wt ⟨gm, rfl, hhm, hbt⟩
                      rw [hsz] at hhm
                      have HH5 := hid (HH4.out.below hbt HBS.out.size)
                      have HO5 := hid (own_keepW HO4.out hbt)
                      have HBT := hid (bx_trans HBS.out hbt)
                      have HHM := hid hhm
                      have HST := hid (own_str (own_keepW HO4.out hbt) rfl)
                      clear hhm hbt HH4 HO4 HBS
                      go_wp2_with fail
                      refine wp_hold (wp_region_lit ?_)
                      refine wp_flowSE [0, 1, 3, 7, 15, 31, 63, 127, 255, 511, 1023, 2047, 4095, 8191, 16383, 32767, 65535, 131071, 262143, 524287, 1048575, 2097151, 4194303] 23 [false, false, false, false, false, false, false, false, false, false, false, false, false, false, false, false, false, false, false, false, false, false, false, false, false, false, false, false, false, false, false, false, false, false, false, false, false, false, false, false, false, false, false, false, false, false, false, false, false, false, false, false, false, false, false, false, false, false, false, false, false, false, false, false, false, false, false, false, false, false, false, false, false, false, false, false, false, false, false, false, false, false, false, false, false, false, false, false, false, false, false, false, false, false, false, false, false, false, false, false, false, false, false, false, false, false, false, false, false, false, false, false, false, false, false, false, false, false, false, false, false, false, false, false, false, false, false, false, false, false, false, false, false, false, false, false, false, false, false, false, false, false, false, false, false, false, false, false, false, false, false, false, false, false, false, false, false, false, false, false, false, false, false, false, false, true, true, true, true, true, true, true, true, true, true, true, true, true, true, true, true, true, true, true, true, true, true, true] (by kernel_rfl) (by kernel_rfl) (by kernel_rfl) [FP.eq (.int .i64 0), FP.eq (.bool false), FP.eq (.bool false), FP.eq (.pointer (some ⟨gm, 0, none⟩)), FP.rows SS, FP.eq (.slice Av SS.length cv), FP.eq (.bool true), FP.eq (.bool false), FP.eq (.bool false), FP.eq (.bool false), FP.eq (.pointer (some ⟨gm, 0, none⟩)), FP.eq (.int .i64 (SS.length : Int)), FP.eq (.slice Av SS.length cv), FP.eq (.int .i64 (SS.length : Int)), FP.eq (.bool false), FP.eq (.bool false), FP.eq (.bool false), FP.eq (.pointer (some ⟨gm, 0, none⟩)), FP.eq (.int .i64 ((7 * 256 - (framL SS).length : Nat) : Int)), FP.eq (.pointer (some ⟨glo, 0, none⟩)), FP.eq (.int .i64 ((7 * 256 - (framL SS).length : Nat) : Int)), FP.eq (.bool false), FP.eq (.bool false)] ?_ ?_
                      · refine allFrom_cons ?_ ?_
                        · intro a_ w_ hk_
                          have h18 : a_.eval (.tmp 18) = .int .i64 0 := hk_.old 18 (by kernel_rfl)
                          have hx_ := hk_.ext
                          clear hk_
                          refine flow_plain rfl ?_
                          exact gives_move rfl ⟨Below.refl _ _, h18⟩
                        refine allFrom_cons ?_ ?_
                        · intro a_ w_ hk_
                          have h165 : a_.eval (.tmp 165) = (.int .i64 0) := hk_.got 0 165 _ (by kernel_rfl) rfl rfl
                          have hx_ := hk_.ext
                          clear hk_
                          refine flow_plain rfl ?_
                          unfold gives
                          have hc_ : ∀ v, a_.eval (.const v) = v := fun _ => rfl
                          have hn_ : ∀ f, a_.eval (.func f) = .func (.func f) #[] #[] := fun _ => rfl
                          generalize a_.eval = ρ_ at *
                          go_simp
                          exact ⟨Below.refl _ _, rfl⟩
                        refine allFrom_cons ?_ ?_
                        · intro a_ w_ hk_
                          have h166 : a_.eval (.tmp 166) = (.bool false) := hk_.got 1 166 _ (by kernel_rfl) rfl rfl
                          have hx_ := hk_.ext
                          clear hk_
                          refine flow_plain rfl ?_
                          exact gives_move rfl ⟨Below.refl _ _, h166⟩
                        refine allFrom_cons ?_ ?_
                        · intro a_ w_ hk_
                          have h17 : a_.eval (.tmp 17) = .pointer (some ⟨gm, 0, none⟩) := hk_.old 17 (by kernel_rfl)
                          have hg_ : a_.eval (.tmp 167) = .bool false := hk_.got 2 167 _ (by kernel_rfl) rfl rfl
                          have hy_ := hk_.want 2 _ 167 false rfl rfl hg_
                          have hx_ := hk_.ext
                          clear hk_
                          refine flow_want rfl hy_ ?_
                          exact gives_move rfl ⟨Below.refl _ _, h17⟩
                        refine allFrom_cons ?_ ?_
                        · intro a_ w_ hk_
                          have h168 : a_.eval (.tmp 168) = (.pointer (some ⟨gm, 0, none⟩)) := hk_.got 3 168 _ (by kernel_rfl) rfl rfl
                          have hg_ : a_.eval (.tmp 167) = .bool false := hk_.got 2 167 _ (by kernel_rfl) rfl rfl
                          have hy_ := hk_.want 2 _ 167 false rfl rfl hg_
                          have hx_ := hk_.ext
                          clear hk_
                          refine flow_want rfl hy_ ?_
                          unfold gives
                          have hc_ : ∀ v, a_.eval (.const v) = v := fun _ => rfl
                          have hn_ : ∀ f, a_.eval (.func f) = .func (.func f) #[] #[] := fun _ => rfl
                          clear hy_ hg_
                          generalize a_.eval = ρ_ at *
                          go_simp
                          exact (records_V w_ (HHM.out.log.below hx_ HBT.out.size) (by show 7 ≤ 1000; omega)).mono fun e w' ⟨v, h1, h2, h3⟩ => ⟨v, h1, h3, h2⟩
                        refine allFrom_cons ?_ ?_
                        · intro a_ w_ hk_
                          have h10 : a_.eval (.tmp 10) = .slice Av SS.length cv := hk_.old 10 (by kernel_rfl)
                          have hg_ : a_.eval (.tmp 167) = .bool false := hk_.got 2 167 _ (by kernel_rfl) rfl rfl
                          have hy_ := hk_.want 2 _ 167 false rfl rfl hg_
                          have hx_ := hk_.ext
                          clear hk_
                          refine flow_want rfl hy_ ?_
                          exact gives_move rfl ⟨Below.refl _ _, h10⟩
                        refine allFrom_cons ?_ ?_
                        · intro a_ w_ hk_
                          have h169 : (FP.rows SS).p (a_.eval (.tmp 169)) w_ := hk_.got 4 169 _ (by kernel_rfl) rfl rfl
                          have h170 : a_.eval (.tmp 170) = (.slice Av SS.length cv) := hk_.got 5 170 _ (by kernel_rfl) rfl rfl
                          have hg_ : a_.eval (.tmp 167) = .bool false := hk_.got 2 167 _ (by kernel_rfl) rfl rfl
                          have hy_ := hk_.want 2 _ 167 false rfl rfl hg_
                          have hx_ := hk_.ext
                          clear hk_
                          refine flow_want rfl hy_ ?_
                          obtain ⟨A169, c169, h169, r169⟩ := h169
                          have hs_ := same_V w_ (show RdV w_ w_.heap.size (a_.eval (.tmp 169)) SS from ⟨A169, c169, h169, r169⟩) (show StrV w_ (a_.eval (.tmp 170)) SS by rw [h170]; exact HST.out.below hx_) (by omega)
                          unfold gives
                          have hc_ : ∀ v, a_.eval (.const v) = v := fun _ => rfl
                          have hn_ : ∀ f, a_.eval (.func f) = .func (.func f) #[] #[] := fun _ => rfl
                          clear h169 h170
                          generalize a_.eval = ρ_ at *
                          go_simp
                          exact hs_.mono fun e w' ⟨h1, h2⟩ => ⟨_, h1, h2, by show Value.bool _ = _; rw [show sameB SS SS = true from decide_eq_true rfl]⟩
                        refine allFrom_cons ?_ ?_
                        · intro a_ w_ hk_
                          have h171 : a_.eval (.tmp 171) = (.bool true) := hk_.got 6 171 _ (by kernel_rfl) rfl rfl
                          have hg_ : a_.eval (.tmp 167) = .bool false := hk_.got 2 167 _ (by kernel_rfl) rfl rfl
                          have hy_ := hk_.want 2 _ 167 false rfl rfl hg_
                          have hx_ := hk_.ext
                          clear hk_
                          refine flow_want rfl hy_ ?_
                          unfold gives
                          have hc_ : ∀ v, a_.eval (.const v) = v := fun _ => rfl
                          have hn_ : ∀ f, a_.eval (.func f) = .func (.func f) #[] #[] := fun _ => rfl
                          clear hy_ hg_
                          generalize a_.eval = ρ_ at *
                          go_simp
                          exact ⟨Below.refl _ _, rfl⟩
                        refine allFrom_cons ?_ ?_
                        · intro a_ w_ hk_
                          have h167 : a_.eval (.tmp 167) = (.bool false) := hk_.got 2 167 _ (by kernel_rfl) rfl rfl
                          have h172 : a_.eval (.tmp 172) = (.bool false) := hk_.got 7 172 _ (by kernel_rfl) rfl rfl
                          have hx_ := hk_.ext
                          clear hk_
                          refine flow_plain rfl ?_
                          exact gives_pick rfl h167 ⟨Below.refl _ _, h172⟩
                        refine allFrom_cons ?_ ?_
                        · intro a_ w_ hk_
                          have h173 : a_.eval (.tmp 173) = (.bool false) := hk_.got 8 173 _ (by kernel_rfl) rfl rfl
                          have hx_ := hk_.ext
                          clear hk_
                          refine flow_plain rfl ?_
                          exact gives_move rfl ⟨Below.refl _ _, h173⟩
                        refine allFrom_cons ?_ ?_
                        · intro a_ w_ hk_
                          have h17 : a_.eval (.tmp 17) = .pointer (some ⟨gm, 0, none⟩) := hk_.old 17 (by kernel_rfl)
                          have hg_ : a_.eval (.tmp 174) = .bool false := hk_.got 9 174 _ (by kernel_rfl) rfl rfl
                          have hy_ := hk_.want 9 _ 174 false rfl rfl hg_
                          have hx_ := hk_.ext
                          clear hk_
                          refine flow_want rfl hy_ ?_
                          exact gives_move rfl ⟨Below.refl _ _, h17⟩
                        refine allFrom_cons ?_ ?_
                        · intro a_ w_ hk_
                          have h175 : a_.eval (.tmp 175) = (.pointer (some ⟨gm, 0, none⟩)) := hk_.got 10 175 _ (by kernel_rfl) rfl rfl
                          have hg_ : a_.eval (.tmp 174) = .bool false := hk_.got 9 174 _ (by kernel_rfl) rfl rfl
                          have hy_ := hk_.want 9 _ 174 false rfl rfl hg_
                          have hx_ := hk_.ext
                          clear hk_
                          refine flow_want rfl hy_ ?_
                          unfold gives
                          have hc_ : ∀ v, a_.eval (.const v) = v := fun _ => rfl
                          have hn_ : ∀ f, a_.eval (.func f) = .func (.func f) #[] #[] := fun _ => rfl
                          clear hy_ hg_
                          generalize a_.eval = ρ_ at *
                          go_simp
                          exact (aSure w_ (HHM.out.log.below hx_ HBT.out.size)).mono fun e w' ⟨h1, h2⟩ => ⟨_, h1, h2 ▸ Below.refl _ _, rfl⟩
                        refine allFrom_cons ?_ ?_
                        · intro a_ w_ hk_
                          have h10 : a_.eval (.tmp 10) = .slice Av SS.length cv := hk_.old 10 (by kernel_rfl)
                          have hg_ : a_.eval (.tmp 174) = .bool false := hk_.got 9 174 _ (by kernel_rfl) rfl rfl
                          have hy_ := hk_.want 9 _ 174 false rfl rfl hg_
                          have hx_ := hk_.ext
                          clear hk_
                          refine flow_want rfl hy_ ?_
                          exact gives_move rfl ⟨Below.refl _ _, h10⟩
                        refine allFrom_cons ?_ ?_
                        · intro a_ w_ hk_
                          have h177 : a_.eval (.tmp 177) = (.slice Av SS.length cv) := hk_.got 12 177 _ (by kernel_rfl) rfl rfl
                          have hg_ : a_.eval (.tmp 174) = .bool false := hk_.got 9 174 _ (by kernel_rfl) rfl rfl
                          have hy_ := hk_.want 9 _ 174 false rfl rfl hg_
                          have hx_ := hk_.ext
                          clear hk_
                          refine flow_want rfl hy_ ?_
                          unfold gives
                          have hc_ : ∀ v, a_.eval (.const v) = v := fun _ => rfl
                          have hn_ : ∀ f, a_.eval (.func f) = .func (.func f) #[] #[] := fun _ => rfl
                          clear hy_ hg_
                          generalize a_.eval = ρ_ at *
                          go_simp
                          exact ⟨Below.refl _ _, rfl⟩
                        refine allFrom_cons ?_ ?_
                        · intro a_ w_ hk_
                          have h176 : a_.eval (.tmp 176) = (.int .i64 (SS.length : Int)) := hk_.got 11 176 _ (by kernel_rfl) rfl rfl
                          have h178 : a_.eval (.tmp 178) = (.int .i64 (SS.length : Int)) := hk_.got 13 178 _ (by kernel_rfl) rfl rfl
                          have hg_ : a_.eval (.tmp 174) = .bool false := hk_.got 9 174 _ (by kernel_rfl) rfl rfl
                          have hy_ := hk_.want 9 _ 174 false rfl rfl hg_
                          have hx_ := hk_.ext
                          clear hk_
                          refine flow_want rfl hy_ ?_
                          unfold gives
                          have hc_ : ∀ v, a_.eval (.const v) = v := fun _ => rfl
                          have hn_ : ∀ f, a_.eval (.func f) = .func (.func f) #[] #[] := fun _ => rfl
                          clear hy_ hg_
                          generalize a_.eval = ρ_ at *
                          go_simp
                          exact ⟨Below.refl _ _, rfl⟩
                        refine allFrom_cons ?_ ?_
                        · intro a_ w_ hk_
                          have h174 : a_.eval (.tmp 174) = (.bool false) := hk_.got 9 174 _ (by kernel_rfl) rfl rfl
                          have h179 : a_.eval (.tmp 179) = (.bool false) := hk_.got 14 179 _ (by kernel_rfl) rfl rfl
                          have hx_ := hk_.ext
                          clear hk_
                          refine flow_plain rfl ?_
                          exact gives_pick rfl h174 ⟨Below.refl _ _, h179⟩
                        refine allFrom_cons ?_ ?_
                        · intro a_ w_ hk_
                          have h180 : a_.eval (.tmp 180) = (.bool false) := hk_.got 15 180 _ (by kernel_rfl) rfl rfl
                          have hx_ := hk_.ext
                          clear hk_
                          refine flow_plain rfl ?_
                          exact gives_move rfl ⟨Below.refl _ _, h180⟩
                        refine allFrom_cons ?_ ?_
                        · intro a_ w_ hk_
                          have h17 : a_.eval (.tmp 17) = .pointer (some ⟨gm, 0, none⟩) := hk_.old 17 (by kernel_rfl)
                          have hg_ : a_.eval (.tmp 181) = .bool false := hk_.got 16 181 _ (by kernel_rfl) rfl rfl
                          have hy_ := hk_.want 16 _ 181 false rfl rfl hg_
                          have hx_ := hk_.ext
                          clear hk_
                          refine flow_want rfl hy_ ?_
                          exact gives_move rfl ⟨Below.refl _ _, h17⟩
                        refine allFrom_cons ?_ ?_
                        · intro a_ w_ hk_
                          have h182 : a_.eval (.tmp 182) = (.pointer (some ⟨gm, 0, none⟩)) := hk_.got 17 182 _ (by kernel_rfl) rfl rfl
                          have hg_ : a_.eval (.tmp 181) = .bool false := hk_.got 16 181 _ (by kernel_rfl) rfl rfl
                          have hy_ := hk_.want 16 _ 181 false rfl rfl hg_
                          have hx_ := hk_.ext
                          clear hk_
                          refine flow_want rfl hy_ ?_
                          unfold gives
                          have hc_ : ∀ v, a_.eval (.const v) = v := fun _ => rfl
                          have hn_ : ∀ f, a_.eval (.func f) = .func (.func f) #[] #[] := fun _ => rfl
                          clear hy_ hg_
                          generalize a_.eval = ρ_ at *
                          go_simp
                          exact (aFree w_ (HHM.out.log.below hx_ HBT.out.size) (by show 7 ≤ 1000; omega)).mono fun e w' ⟨h1, h2⟩ => ⟨_, h1, h2, rfl⟩
                        refine allFrom_cons ?_ ?_
                        · intro a_ w_ hk_
                          have h8 : a_.eval (.tmp 8) = .pointer (some ⟨glo, 0, none⟩) := hk_.old 8 (by kernel_rfl)
                          have hg_ : a_.eval (.tmp 181) = .bool false := hk_.got 16 181 _ (by kernel_rfl) rfl rfl
                          have hy_ := hk_.want 16 _ 181 false rfl rfl hg_
                          have hx_ := hk_.ext
                          clear hk_
                          refine flow_want rfl hy_ ?_
                          exact gives_move rfl ⟨Below.refl _ _, h8⟩
                        refine allFrom_cons ?_ ?_
                        · intro a_ w_ hk_
                          have h184 : a_.eval (.tmp 184) = (.pointer (some ⟨glo, 0, none⟩)) := hk_.got 19 184 _ (by kernel_rfl) rfl rfl
                          have hg_ : a_.eval (.tmp 181) = .bool false := hk_.got 16 181 _ (by kernel_rfl) rfl rfl
                          have hy_ := hk_.want 16 _ 181 false rfl rfl hg_
                          have hx_ := hk_.ext
                          clear hk_
                          refine flow_want rfl hy_ ?_
                          unfold gives
                          have hc_ : ∀ v, a_.eval (.const v) = v := fun _ => rfl
                          have hn_ : ∀ f, a_.eval (.func f) = .func (.func f) #[] #[] := fun _ => rfl
                          clear hy_ hg_
                          generalize a_.eval = ρ_ at *
                          go_simp
                          exact (aFree w_ (HH5.out.log.below hx_ HBT.out.size) (by show 7 ≤ 1000; omega)).mono fun e w' ⟨h1, h2⟩ => ⟨_, h1, h2, rfl⟩
                        refine allFrom_cons ?_ ?_
                        · intro a_ w_ hk_
                          have h183 : a_.eval (.tmp 183) = (.int .i64 ((7 * 256 - (framL SS).length : Nat) : Int)) := hk_.got 18 183 _ (by kernel_rfl) rfl rfl
                          have h185 : a_.eval (.tmp 185) = (.int .i64 ((7 * 256 - (framL SS).length : Nat) : Int)) := hk_.got 20 185 _ (by kernel_rfl) rfl rfl
                          have hg_ : a_.eval (.tmp 181) = .bool false := hk_.got 16 181 _ (by kernel_rfl) rfl rfl
                          have hy_ := hk_.want 16 _ 181 false rfl rfl hg_
                          have hx_ := hk_.ext
                          clear hk_
                          refine flow_want rfl hy_ ?_
                          unfold gives
                          have hc_ : ∀ v, a_.eval (.const v) = v := fun _ => rfl
                          have hn_ : ∀ f, a_.eval (.func f) = .func (.func f) #[] #[] := fun _ => rfl
                          clear hy_ hg_
                          generalize a_.eval = ρ_ at *
                          go_simp
                          exact ⟨Below.refl _ _, rfl⟩
                        refine allFrom_cons ?_ ?_
                        · intro a_ w_ hk_
                          have h181 : a_.eval (.tmp 181) = (.bool false) := hk_.got 16 181 _ (by kernel_rfl) rfl rfl
                          have h186 : a_.eval (.tmp 186) = (.bool false) := hk_.got 21 186 _ (by kernel_rfl) rfl rfl
                          have hx_ := hk_.ext
                          clear hk_
                          refine flow_plain rfl ?_
                          exact gives_pick rfl h181 ⟨Below.refl _ _, h186⟩
                        exact allFrom_nil
                      intro f_ w_ hx_ hf_
                      have h165 : f_ 165 = (.int .i64 0) := hf_ 0 165 _ (by decide) rfl rfl
                      have h166 : f_ 166 = (.bool false) := hf_ 1 166 _ (by decide) rfl rfl
                      have h167 : f_ 167 = (.bool false) := hf_ 2 167 _ (by decide) rfl rfl
                      have h168 : f_ 168 = (.pointer (some ⟨gm, 0, none⟩)) := hf_ 3 168 _ (by decide) rfl rfl
                      have h169 : (FP.rows SS).p (f_ 169) w_ := hf_ 4 169 _ (by decide) rfl rfl
                      have h170 : f_ 170 = (.slice Av SS.length cv) := hf_ 5 170 _ (by decide) rfl rfl
                      have h171 : f_ 171 = (.bool true) := hf_ 6 171 _ (by decide) rfl rfl
                      have h172 : f_ 172 = (.bool false) := hf_ 7 172 _ (by decide) rfl rfl
                      have h173 : f_ 173 = (.bool false) := hf_ 8 173 _ (by decide) rfl rfl
                      have h174 : f_ 174 = (.bool false) := hf_ 9 174 _ (by decide) rfl rfl
                      have h175 : f_ 175 = (.pointer (some ⟨gm, 0, none⟩)) := hf_ 10 175 _ (by decide) rfl rfl
                      have h176 : f_ 176 = (.int .i64 (SS.length : Int)) := hf_ 11 176 _ (by decide) rfl rfl
                      have h177 : f_ 177 = (.slice Av SS.length cv) := hf_ 12 177 _ (by decide) rfl rfl
                      have h178 : f_ 178 = (.int .i64 (SS.length : Int)) := hf_ 13 178 _ (by decide) rfl rfl
                      have h179 : f_ 179 = (.bool false) := hf_ 14 179 _ (by decide) rfl rfl
                      have h180 : f_ 180 = (.bool false) := hf_ 15 180 _ (by decide) rfl rfl
                      have h181 : f_ 181 = (.bool false) := hf_ 16 181 _ (by decide) rfl rfl
                      have h182 : f_ 182 = (.pointer (some ⟨gm, 0, none⟩)) := hf_ 17 182 _ (by decide) rfl rfl
                      have h183 : f_ 183 = (.int .i64 ((7 * 256 - (framL SS).length : Nat) : Int)) := hf_ 18 183 _ (by decide) rfl rfl
                      have h184 : f_ 184 = (.pointer (some ⟨glo, 0, none⟩)) := hf_ 19 184 _ (by decide) rfl rfl
                      have h185 : f_ 185 = (.int .i64 ((7 * 256 - (framL SS).length : Nat) : Int)) := hf_ 20 185 _ (by decide) rfl rfl
                      have h186 : f_ 186 = (.bool false) := hf_ 21 186 _ (by decide) rfl rfl
                      have h187 : f_ 187 = (.bool false) := hf_ 22 187 _ (by decide) rfl rfl
                      simp only [mix, h165, h166, h167, h168, h170, h171, h172, h173, h174, h175, h176, h177, h178, h179, h180, h181, h182, h183, h184, h185, h186, h187]
                      clear h165 h166 h167 h168 h170 h171 h172 h173 h174 h175 h176 h177 h178 h179 h180 h181 h182 h183 h184 h185 h186 h187
                      clear hf_
                      have HO6 := own_keepW HO5.out hx_
                      rw [← HVE.out] at HO6
                      go_wp2_with fail
                      rw [← HVE.out]
                      refine cut_leaf HKC (by kernel_rfl) ?_
                      exact ⟨glo, Dc, _, SS, rfl, ⟨HH5.out.below hx_ HBT.out.size, hnc, rfl, hT, by rw [HLC.out]; exact Nat.zero_le _, bx_trans HBT.out hx_, HO6, HO6⟩⟩
                    · rw [show sameB SS M = false from decide_eq_false hSM]
                      have hSr : SS = rs := by rcases hSS with h | h; exact h; exact absurd h hSM
                      rw [← hSr] at HS4
                      have HOV := HS4
                      clear HM4 HS4 hSS hSM hSr
                      obtain ⟨Av, cv, hVe, hcv1, hcv2, _⟩ := own_form HOV.out
                      have HOV' := HOV
                      rw [hVe] at HOV'
                      have HVE := hid hVe
                      clear HOV hVe
                      go_wp2_with fail
                      refine (records_V wq HH2.out.log (by show 7 ≤ 1000; omega)).mono ?_
                      rintro e wr1 ⟨v2, rfl, hv2, hb2⟩
                      have HH3 := hid (HH2.out.below hb2 HBQ.out.size)
                      have HO3 := hid (own_keepW HOV'.out hb2)
                      have HBR := hid (bx_trans HBQ.out hb2)
                      have hv2' : RdV wr1 wr1.heap.size v2 SS := hv2
                      have HV2 := hid hv2'
                      clear hv2 hv2' hb2 HH2 HBQ HOV'
                      go_wp2_with fail
                      rw [HVE.out]
                      refine (same_V wr1 HV2.out (own_str HO3.out rfl) (by omega)).mono ?_
                      rintro e ws ⟨rfl, hbs⟩
                      rw [show sameB SS SS = true from decide_eq_true rfl]
                      have HH4 := hid (HH3.out.below hbs HBR.out.size)
                      have HO4 := hid (own_keepW HO3.out hbs)
                      have HBS := hid (bx_trans HBR.out hbs)
                      clear hbs HV2 HH3 HO3 HBR
                      go_wp2_with fail
                      refine (cOpen ws HH4.out.disk HBS.out.size (by omega) hac HLC.out HDU.out).mono ?_
                      rintro e wt ⟨gm, rfl, hhm, hbt⟩
                      rw [hsz] at hhm
                      have HH5 := hid (HH4.out.below hbt HBS.out.size)
                      have HO5 := hid (own_keepW HO4.out hbt)
                      have HBT := hid (bx_trans HBS.out hbt)
                      have HHM := hid hhm
                      have HST := hid (own_str (own_keepW HO4.out hbt) rfl)
                      clear hhm hbt HH4 HO4 HBS
                      go_wp2_with fail
                      refine wp_hold (wp_region_lit ?_)
                      refine wp_flowSE [0, 1, 3, 7, 15, 31, 63, 127, 255, 511, 1023, 2047, 4095, 8191, 16383, 32767, 65535, 131071, 262143, 524287, 1048575, 2097151, 4194303] 23 [false, false, false, false, false, false, false, false, false, false, false, false, false, false, false, false, false, false, false, false, false, false, false, false, false, false, false, false, false, false, false, false, false, false, false, false, false, false, false, false, false, false, false, false, false, false, false, false, false, false, false, false, false, false, false, false, false, false, false, false, false, false, false, false, false, false, false, false, false, false, false, false, false, false, false, false, false, false, false, false, false, false, false, false, false, false, false, false, false, false, false, false, false, false, false, false, false, false, false, false, false, false, false, false, false, false, false, false, false, false, false, false, false, false, false, false, false, false, false, false, false, false, false, false, false, false, false, false, false, false, false, false, false, false, false, false, false, false, false, false, false, false, false, false, false, false, false, false, false, false, false, false, false, false, false, false, false, false, false, false, false, false, false, false, false, true, true, true, true, true, true, true, true, true, true, true, true, true, true, true, true, true, true, true, true, true, true, true] (by kernel_rfl) (by kernel_rfl) (by kernel_rfl) [FP.eq (.int .i64 0), FP.eq (.bool false), FP.eq (.bool false), FP.eq (.pointer (some ⟨gm, 0, none⟩)), FP.rows SS, FP.eq (.slice Av SS.length cv), FP.eq (.bool true), FP.eq (.bool false), FP.eq (.bool false), FP.eq (.bool false), FP.eq (.pointer (some ⟨gm, 0, none⟩)), FP.eq (.int .i64 (SS.length : Int)), FP.eq (.slice Av SS.length cv), FP.eq (.int .i64 (SS.length : Int)), FP.eq (.bool false), FP.eq (.bool false), FP.eq (.bool false), FP.eq (.pointer (some ⟨gm, 0, none⟩)), FP.eq (.int .i64 ((7 * 256 - (framL SS).length : Nat) : Int)), FP.eq (.pointer (some ⟨glo, 0, none⟩)), FP.eq (.int .i64 ((7 * 256 - (framL SS).length : Nat) : Int)), FP.eq (.bool false), FP.eq (.bool false)] ?_ ?_
                      · refine allFrom_cons ?_ ?_
                        · intro a_ w_ hk_
                          have h18 : a_.eval (.tmp 18) = .int .i64 0 := hk_.old 18 (by kernel_rfl)
                          have hx_ := hk_.ext
                          clear hk_
                          refine flow_plain rfl ?_
                          exact gives_move rfl ⟨Below.refl _ _, h18⟩
                        refine allFrom_cons ?_ ?_
                        · intro a_ w_ hk_
                          have h165 : a_.eval (.tmp 165) = (.int .i64 0) := hk_.got 0 165 _ (by kernel_rfl) rfl rfl
                          have hx_ := hk_.ext
                          clear hk_
                          refine flow_plain rfl ?_
                          unfold gives
                          have hc_ : ∀ v, a_.eval (.const v) = v := fun _ => rfl
                          have hn_ : ∀ f, a_.eval (.func f) = .func (.func f) #[] #[] := fun _ => rfl
                          generalize a_.eval = ρ_ at *
                          go_simp
                          exact ⟨Below.refl _ _, rfl⟩
                        refine allFrom_cons ?_ ?_
                        · intro a_ w_ hk_
                          have h166 : a_.eval (.tmp 166) = (.bool false) := hk_.got 1 166 _ (by kernel_rfl) rfl rfl
                          have hx_ := hk_.ext
                          clear hk_
                          refine flow_plain rfl ?_
                          exact gives_move rfl ⟨Below.refl _ _, h166⟩
                        refine allFrom_cons ?_ ?_
                        · intro a_ w_ hk_
                          have h17 : a_.eval (.tmp 17) = .pointer (some ⟨gm, 0, none⟩) := hk_.old 17 (by kernel_rfl)
                          have hg_ : a_.eval (.tmp 167) = .bool false := hk_.got 2 167 _ (by kernel_rfl) rfl rfl
                          have hy_ := hk_.want 2 _ 167 false rfl rfl hg_
                          have hx_ := hk_.ext
                          clear hk_
                          refine flow_want rfl hy_ ?_
                          exact gives_move rfl ⟨Below.refl _ _, h17⟩
                        refine allFrom_cons ?_ ?_
                        · intro a_ w_ hk_
                          have h168 : a_.eval (.tmp 168) = (.pointer (some ⟨gm, 0, none⟩)) := hk_.got 3 168 _ (by kernel_rfl) rfl rfl
                          have hg_ : a_.eval (.tmp 167) = .bool false := hk_.got 2 167 _ (by kernel_rfl) rfl rfl
                          have hy_ := hk_.want 2 _ 167 false rfl rfl hg_
                          have hx_ := hk_.ext
                          clear hk_
                          refine flow_want rfl hy_ ?_
                          unfold gives
                          have hc_ : ∀ v, a_.eval (.const v) = v := fun _ => rfl
                          have hn_ : ∀ f, a_.eval (.func f) = .func (.func f) #[] #[] := fun _ => rfl
                          clear hy_ hg_
                          generalize a_.eval = ρ_ at *
                          go_simp
                          exact (records_V w_ (HHM.out.log.below hx_ HBT.out.size) (by show 7 ≤ 1000; omega)).mono fun e w' ⟨v, h1, h2, h3⟩ => ⟨v, h1, h3, h2⟩
                        refine allFrom_cons ?_ ?_
                        · intro a_ w_ hk_
                          have h10 : a_.eval (.tmp 10) = .slice Av SS.length cv := hk_.old 10 (by kernel_rfl)
                          have hg_ : a_.eval (.tmp 167) = .bool false := hk_.got 2 167 _ (by kernel_rfl) rfl rfl
                          have hy_ := hk_.want 2 _ 167 false rfl rfl hg_
                          have hx_ := hk_.ext
                          clear hk_
                          refine flow_want rfl hy_ ?_
                          exact gives_move rfl ⟨Below.refl _ _, h10⟩
                        refine allFrom_cons ?_ ?_
                        · intro a_ w_ hk_
                          have h169 : (FP.rows SS).p (a_.eval (.tmp 169)) w_ := hk_.got 4 169 _ (by kernel_rfl) rfl rfl
                          have h170 : a_.eval (.tmp 170) = (.slice Av SS.length cv) := hk_.got 5 170 _ (by kernel_rfl) rfl rfl
                          have hg_ : a_.eval (.tmp 167) = .bool false := hk_.got 2 167 _ (by kernel_rfl) rfl rfl
                          have hy_ := hk_.want 2 _ 167 false rfl rfl hg_
                          have hx_ := hk_.ext
                          clear hk_
                          refine flow_want rfl hy_ ?_
                          obtain ⟨A169, c169, h169, r169⟩ := h169
                          have hs_ := same_V w_ (show RdV w_ w_.heap.size (a_.eval (.tmp 169)) SS from ⟨A169, c169, h169, r169⟩) (show StrV w_ (a_.eval (.tmp 170)) SS by rw [h170]; exact HST.out.below hx_) (by omega)
                          unfold gives
                          have hc_ : ∀ v, a_.eval (.const v) = v := fun _ => rfl
                          have hn_ : ∀ f, a_.eval (.func f) = .func (.func f) #[] #[] := fun _ => rfl
                          clear h169 h170
                          generalize a_.eval = ρ_ at *
                          go_simp
                          exact hs_.mono fun e w' ⟨h1, h2⟩ => ⟨_, h1, h2, by show Value.bool _ = _; rw [show sameB SS SS = true from decide_eq_true rfl]⟩
                        refine allFrom_cons ?_ ?_
                        · intro a_ w_ hk_
                          have h171 : a_.eval (.tmp 171) = (.bool true) := hk_.got 6 171 _ (by kernel_rfl) rfl rfl
                          have hg_ : a_.eval (.tmp 167) = .bool false := hk_.got 2 167 _ (by kernel_rfl) rfl rfl
                          have hy_ := hk_.want 2 _ 167 false rfl rfl hg_
                          have hx_ := hk_.ext
                          clear hk_
                          refine flow_want rfl hy_ ?_
                          unfold gives
                          have hc_ : ∀ v, a_.eval (.const v) = v := fun _ => rfl
                          have hn_ : ∀ f, a_.eval (.func f) = .func (.func f) #[] #[] := fun _ => rfl
                          clear hy_ hg_
                          generalize a_.eval = ρ_ at *
                          go_simp
                          exact ⟨Below.refl _ _, rfl⟩
                        refine allFrom_cons ?_ ?_
                        · intro a_ w_ hk_
                          have h167 : a_.eval (.tmp 167) = (.bool false) := hk_.got 2 167 _ (by kernel_rfl) rfl rfl
                          have h172 : a_.eval (.tmp 172) = (.bool false) := hk_.got 7 172 _ (by kernel_rfl) rfl rfl
                          have hx_ := hk_.ext
                          clear hk_
                          refine flow_plain rfl ?_
                          exact gives_pick rfl h167 ⟨Below.refl _ _, h172⟩
                        refine allFrom_cons ?_ ?_
                        · intro a_ w_ hk_
                          have h173 : a_.eval (.tmp 173) = (.bool false) := hk_.got 8 173 _ (by kernel_rfl) rfl rfl
                          have hx_ := hk_.ext
                          clear hk_
                          refine flow_plain rfl ?_
                          exact gives_move rfl ⟨Below.refl _ _, h173⟩
                        refine allFrom_cons ?_ ?_
                        · intro a_ w_ hk_
                          have h17 : a_.eval (.tmp 17) = .pointer (some ⟨gm, 0, none⟩) := hk_.old 17 (by kernel_rfl)
                          have hg_ : a_.eval (.tmp 174) = .bool false := hk_.got 9 174 _ (by kernel_rfl) rfl rfl
                          have hy_ := hk_.want 9 _ 174 false rfl rfl hg_
                          have hx_ := hk_.ext
                          clear hk_
                          refine flow_want rfl hy_ ?_
                          exact gives_move rfl ⟨Below.refl _ _, h17⟩
                        refine allFrom_cons ?_ ?_
                        · intro a_ w_ hk_
                          have h175 : a_.eval (.tmp 175) = (.pointer (some ⟨gm, 0, none⟩)) := hk_.got 10 175 _ (by kernel_rfl) rfl rfl
                          have hg_ : a_.eval (.tmp 174) = .bool false := hk_.got 9 174 _ (by kernel_rfl) rfl rfl
                          have hy_ := hk_.want 9 _ 174 false rfl rfl hg_
                          have hx_ := hk_.ext
                          clear hk_
                          refine flow_want rfl hy_ ?_
                          unfold gives
                          have hc_ : ∀ v, a_.eval (.const v) = v := fun _ => rfl
                          have hn_ : ∀ f, a_.eval (.func f) = .func (.func f) #[] #[] := fun _ => rfl
                          clear hy_ hg_
                          generalize a_.eval = ρ_ at *
                          go_simp
                          exact (aSure w_ (HHM.out.log.below hx_ HBT.out.size)).mono fun e w' ⟨h1, h2⟩ => ⟨_, h1, h2 ▸ Below.refl _ _, rfl⟩
                        refine allFrom_cons ?_ ?_
                        · intro a_ w_ hk_
                          have h10 : a_.eval (.tmp 10) = .slice Av SS.length cv := hk_.old 10 (by kernel_rfl)
                          have hg_ : a_.eval (.tmp 174) = .bool false := hk_.got 9 174 _ (by kernel_rfl) rfl rfl
                          have hy_ := hk_.want 9 _ 174 false rfl rfl hg_
                          have hx_ := hk_.ext
                          clear hk_
                          refine flow_want rfl hy_ ?_
                          exact gives_move rfl ⟨Below.refl _ _, h10⟩
                        refine allFrom_cons ?_ ?_
                        · intro a_ w_ hk_
                          have h177 : a_.eval (.tmp 177) = (.slice Av SS.length cv) := hk_.got 12 177 _ (by kernel_rfl) rfl rfl
                          have hg_ : a_.eval (.tmp 174) = .bool false := hk_.got 9 174 _ (by kernel_rfl) rfl rfl
                          have hy_ := hk_.want 9 _ 174 false rfl rfl hg_
                          have hx_ := hk_.ext
                          clear hk_
                          refine flow_want rfl hy_ ?_
                          unfold gives
                          have hc_ : ∀ v, a_.eval (.const v) = v := fun _ => rfl
                          have hn_ : ∀ f, a_.eval (.func f) = .func (.func f) #[] #[] := fun _ => rfl
                          clear hy_ hg_
                          generalize a_.eval = ρ_ at *
                          go_simp
                          exact ⟨Below.refl _ _, rfl⟩
                        refine allFrom_cons ?_ ?_
                        · intro a_ w_ hk_
                          have h176 : a_.eval (.tmp 176) = (.int .i64 (SS.length : Int)) := hk_.got 11 176 _ (by kernel_rfl) rfl rfl
                          have h178 : a_.eval (.tmp 178) = (.int .i64 (SS.length : Int)) := hk_.got 13 178 _ (by kernel_rfl) rfl rfl
                          have hg_ : a_.eval (.tmp 174) = .bool false := hk_.got 9 174 _ (by kernel_rfl) rfl rfl
                          have hy_ := hk_.want 9 _ 174 false rfl rfl hg_
                          have hx_ := hk_.ext
                          clear hk_
                          refine flow_want rfl hy_ ?_
                          unfold gives
                          have hc_ : ∀ v, a_.eval (.const v) = v := fun _ => rfl
                          have hn_ : ∀ f, a_.eval (.func f) = .func (.func f) #[] #[] := fun _ => rfl
                          clear hy_ hg_
                          generalize a_.eval = ρ_ at *
                          go_simp
                          exact ⟨Below.refl _ _, rfl⟩
                        refine allFrom_cons ?_ ?_
                        · intro a_ w_ hk_
                          have h174 : a_.eval (.tmp 174) = (.bool false) := hk_.got 9 174 _ (by kernel_rfl) rfl rfl
                          have h179 : a_.eval (.tmp 179) = (.bool false) := hk_.got 14 179 _ (by kernel_rfl) rfl rfl
                          have hx_ := hk_.ext
                          clear hk_
                          refine flow_plain rfl ?_
                          exact gives_pick rfl h174 ⟨Below.refl _ _, h179⟩
                        refine allFrom_cons ?_ ?_
                        · intro a_ w_ hk_
                          have h180 : a_.eval (.tmp 180) = (.bool false) := hk_.got 15 180 _ (by kernel_rfl) rfl rfl
                          have hx_ := hk_.ext
                          clear hk_
                          refine flow_plain rfl ?_
                          exact gives_move rfl ⟨Below.refl _ _, h180⟩
                        refine allFrom_cons ?_ ?_
                        · intro a_ w_ hk_
                          have h17 : a_.eval (.tmp 17) = .pointer (some ⟨gm, 0, none⟩) := hk_.old 17 (by kernel_rfl)
                          have hg_ : a_.eval (.tmp 181) = .bool false := hk_.got 16 181 _ (by kernel_rfl) rfl rfl
                          have hy_ := hk_.want 16 _ 181 false rfl rfl hg_
                          have hx_ := hk_.ext
                          clear hk_
                          refine flow_want rfl hy_ ?_
                          exact gives_move rfl ⟨Below.refl _ _, h17⟩
                        refine allFrom_cons ?_ ?_
                        · intro a_ w_ hk_
                          have h182 : a_.eval (.tmp 182) = (.pointer (some ⟨gm, 0, none⟩)) := hk_.got 17 182 _ (by kernel_rfl) rfl rfl
                          have hg_ : a_.eval (.tmp 181) = .bool false := hk_.got 16 181 _ (by kernel_rfl) rfl rfl
                          have hy_ := hk_.want 16 _ 181 false rfl rfl hg_
                          have hx_ := hk_.ext
                          clear hk_
                          refine flow_want rfl hy_ ?_
                          unfold gives
                          have hc_ : ∀ v, a_.eval (.const v) = v := fun _ => rfl
                          have hn_ : ∀ f, a_.eval (.func f) = .func (.func f) #[] #[] := fun _ => rfl
                          clear hy_ hg_
                          generalize a_.eval = ρ_ at *
                          go_simp
                          exact (aFree w_ (HHM.out.log.below hx_ HBT.out.size) (by show 7 ≤ 1000; omega)).mono fun e w' ⟨h1, h2⟩ => ⟨_, h1, h2, rfl⟩
                        refine allFrom_cons ?_ ?_
                        · intro a_ w_ hk_
                          have h8 : a_.eval (.tmp 8) = .pointer (some ⟨glo, 0, none⟩) := hk_.old 8 (by kernel_rfl)
                          have hg_ : a_.eval (.tmp 181) = .bool false := hk_.got 16 181 _ (by kernel_rfl) rfl rfl
                          have hy_ := hk_.want 16 _ 181 false rfl rfl hg_
                          have hx_ := hk_.ext
                          clear hk_
                          refine flow_want rfl hy_ ?_
                          exact gives_move rfl ⟨Below.refl _ _, h8⟩
                        refine allFrom_cons ?_ ?_
                        · intro a_ w_ hk_
                          have h184 : a_.eval (.tmp 184) = (.pointer (some ⟨glo, 0, none⟩)) := hk_.got 19 184 _ (by kernel_rfl) rfl rfl
                          have hg_ : a_.eval (.tmp 181) = .bool false := hk_.got 16 181 _ (by kernel_rfl) rfl rfl
                          have hy_ := hk_.want 16 _ 181 false rfl rfl hg_
                          have hx_ := hk_.ext
                          clear hk_
                          refine flow_want rfl hy_ ?_
                          unfold gives
                          have hc_ : ∀ v, a_.eval (.const v) = v := fun _ => rfl
                          have hn_ : ∀ f, a_.eval (.func f) = .func (.func f) #[] #[] := fun _ => rfl
                          clear hy_ hg_
                          generalize a_.eval = ρ_ at *
                          go_simp
                          exact (aFree w_ (HH5.out.log.below hx_ HBT.out.size) (by show 7 ≤ 1000; omega)).mono fun e w' ⟨h1, h2⟩ => ⟨_, h1, h2, rfl⟩
                        refine allFrom_cons ?_ ?_
                        · intro a_ w_ hk_
                          have h183 : a_.eval (.tmp 183) = (.int .i64 ((7 * 256 - (framL SS).length : Nat) : Int)) := hk_.got 18 183 _ (by kernel_rfl) rfl rfl
                          have h185 : a_.eval (.tmp 185) = (.int .i64 ((7 * 256 - (framL SS).length : Nat) : Int)) := hk_.got 20 185 _ (by kernel_rfl) rfl rfl
                          have hg_ : a_.eval (.tmp 181) = .bool false := hk_.got 16 181 _ (by kernel_rfl) rfl rfl
                          have hy_ := hk_.want 16 _ 181 false rfl rfl hg_
                          have hx_ := hk_.ext
                          clear hk_
                          refine flow_want rfl hy_ ?_
                          unfold gives
                          have hc_ : ∀ v, a_.eval (.const v) = v := fun _ => rfl
                          have hn_ : ∀ f, a_.eval (.func f) = .func (.func f) #[] #[] := fun _ => rfl
                          clear hy_ hg_
                          generalize a_.eval = ρ_ at *
                          go_simp
                          exact ⟨Below.refl _ _, rfl⟩
                        refine allFrom_cons ?_ ?_
                        · intro a_ w_ hk_
                          have h181 : a_.eval (.tmp 181) = (.bool false) := hk_.got 16 181 _ (by kernel_rfl) rfl rfl
                          have h186 : a_.eval (.tmp 186) = (.bool false) := hk_.got 21 186 _ (by kernel_rfl) rfl rfl
                          have hx_ := hk_.ext
                          clear hk_
                          refine flow_plain rfl ?_
                          exact gives_pick rfl h181 ⟨Below.refl _ _, h186⟩
                        exact allFrom_nil
                      intro f_ w_ hx_ hf_
                      have h165 : f_ 165 = (.int .i64 0) := hf_ 0 165 _ (by decide) rfl rfl
                      have h166 : f_ 166 = (.bool false) := hf_ 1 166 _ (by decide) rfl rfl
                      have h167 : f_ 167 = (.bool false) := hf_ 2 167 _ (by decide) rfl rfl
                      have h168 : f_ 168 = (.pointer (some ⟨gm, 0, none⟩)) := hf_ 3 168 _ (by decide) rfl rfl
                      have h169 : (FP.rows SS).p (f_ 169) w_ := hf_ 4 169 _ (by decide) rfl rfl
                      have h170 : f_ 170 = (.slice Av SS.length cv) := hf_ 5 170 _ (by decide) rfl rfl
                      have h171 : f_ 171 = (.bool true) := hf_ 6 171 _ (by decide) rfl rfl
                      have h172 : f_ 172 = (.bool false) := hf_ 7 172 _ (by decide) rfl rfl
                      have h173 : f_ 173 = (.bool false) := hf_ 8 173 _ (by decide) rfl rfl
                      have h174 : f_ 174 = (.bool false) := hf_ 9 174 _ (by decide) rfl rfl
                      have h175 : f_ 175 = (.pointer (some ⟨gm, 0, none⟩)) := hf_ 10 175 _ (by decide) rfl rfl
                      have h176 : f_ 176 = (.int .i64 (SS.length : Int)) := hf_ 11 176 _ (by decide) rfl rfl
                      have h177 : f_ 177 = (.slice Av SS.length cv) := hf_ 12 177 _ (by decide) rfl rfl
                      have h178 : f_ 178 = (.int .i64 (SS.length : Int)) := hf_ 13 178 _ (by decide) rfl rfl
                      have h179 : f_ 179 = (.bool false) := hf_ 14 179 _ (by decide) rfl rfl
                      have h180 : f_ 180 = (.bool false) := hf_ 15 180 _ (by decide) rfl rfl
                      have h181 : f_ 181 = (.bool false) := hf_ 16 181 _ (by decide) rfl rfl
                      have h182 : f_ 182 = (.pointer (some ⟨gm, 0, none⟩)) := hf_ 17 182 _ (by decide) rfl rfl
                      have h183 : f_ 183 = (.int .i64 ((7 * 256 - (framL SS).length : Nat) : Int)) := hf_ 18 183 _ (by decide) rfl rfl
                      have h184 : f_ 184 = (.pointer (some ⟨glo, 0, none⟩)) := hf_ 19 184 _ (by decide) rfl rfl
                      have h185 : f_ 185 = (.int .i64 ((7 * 256 - (framL SS).length : Nat) : Int)) := hf_ 20 185 _ (by decide) rfl rfl
                      have h186 : f_ 186 = (.bool false) := hf_ 21 186 _ (by decide) rfl rfl
                      have h187 : f_ 187 = (.bool false) := hf_ 22 187 _ (by decide) rfl rfl
                      simp only [mix, h165, h166, h167, h168, h170, h171, h172, h173, h174, h175, h176, h177, h178, h179, h180, h181, h182, h183, h184, h185, h186, h187]
                      clear h165 h166 h167 h168 h170 h171 h172 h173 h174 h175 h176 h177 h178 h179 h180 h181 h182 h183 h184 h185 h186 h187
                      clear hf_
                      have HO6 := own_keepW HO5.out hx_
                      rw [← HVE.out] at HO6
                      go_wp2_with fail
                      rw [← HVE.out]
                      refine cut_leaf HKC (by kernel_rfl) ?_
                      exact ⟨glo, Dc, _, SS, rfl, ⟨HH5.out.below hx_ HBT.out.size, hnc, rfl, hT, by rw [HLC.out]; exact Nat.zero_le _, bx_trans HBT.out hx_, HO6, HO6⟩⟩
              case behind =>
                intro fc wz hrel
                simp only [mix]
                generalize fc 8 = u8 at hrel ⊢
                generalize fc 10 = u10 at hrel ⊢
                generalize fc 11 = u11 at hrel ⊢
                obtain ⟨glo, D, L, rs, rfl, hI⟩ := hrel
                clear HSW HBW9 HB9 c0' lgA9 hand7
                have HIZ := hid hI
                clear hI
                go_wp2_with fail
                refine (Fail_any wz HIZ.out.has.disk (-1) (by decide)).mono ?_
                rintro e wy ⟨rfl, hdy, hfy⟩
                have hIy := HIZ.out.fail hdy hfy
                obtain ⟨Av, cv, hVe, hcv1, hcv2, _⟩ := own_form hIy.a
                have HST := hid (own_str hIy.a rfl)
                rw [hVe] at HST
                have hle := hIy.le
                obtain ⟨sL, hsL⟩ : ∃ sL : Int, sL = ((L.sure : Nat) : Int) := ⟨_, rfl⟩
                have hsle : ¬ (L.rows.length : Int) < sL := by omega
                have HSL := hid hsL
                have HIY := hid hIy
                have HVE := hid hVe
                clear hIy hdy hfy HIZ hsL hVe
                go_wp2_with fail
                rw [HVE.out]
                refine wp_hold (wp_region_lit ?_)
                refine wp_flowSE [0, 1, 3, 7, 15, 31, 63, 127, 255, 511, 1023, 2047] 12 [false, false, false, false, false, false, false, false, false, false, false, false, false, false, false, false, false, false, false, false, false, false, false, false, false, false, false, false, false, false, false, false, false, false, false, false, false, false, false, false, false, false, false, false, false, false, false, false, false, false, false, false, false, false, false, false, false, false, false, false, false, false, false, false, false, false, false, false, false, false, false, false, false, false, false, false, false, false, false, false, false, false, false, false, false, false, false, false, false, false, false, false, false, false, false, false, false, false, false, false, false, false, false, false, false, false, false, false, false, false, false, false, false, false, false, false, false, false, false, false, false, false, false, false, false, false, false, false, false, false, false, false, false, false, false, false, false, false, false, false, false, false, false, false, false, false, false, false, false, false, false, false, false, false, false, false, false, false, false, false, false, false, false, false, false, false, false, false, false, false, false, false, false, false, false, false, false, false, false, false, false, false, false, false, false, false, false, false, false, false, true, true, true, true, true, true, true, true, true, true, true, true] (by kernel_rfl) (by kernel_rfl) (by kernel_rfl) [FP.eq (.pointer (some ⟨glo, 0, none⟩)), FP.rows L.rows, FP.eq (.slice Av L.rows.length cv), FP.eq (.bool true), FP.eq (.bool false), FP.eq (.bool false), FP.eq (.pointer (some ⟨glo, 0, none⟩)), FP.eq (.int .i64 sL), FP.eq (.slice Av L.rows.length cv), FP.eq (.int .i64 (L.rows.length : Int)), FP.eq (.bool false), FP.eq (.bool false)] ?_ ?_
                · refine allFrom_cons ?_ ?_
                  · intro a_ w_ hk_
                    have h8 : a_.eval (.tmp 8) = .pointer (some ⟨glo, 0, none⟩) := hk_.old 8 (by kernel_rfl)
                    have hx_ := hk_.ext
                    clear hk_
                    refine flow_plain rfl ?_
                    exact gives_move rfl ⟨Below.refl _ _, h8⟩
                  refine allFrom_cons ?_ ?_
                  · intro a_ w_ hk_
                    have h190 : a_.eval (.tmp 190) = (.pointer (some ⟨glo, 0, none⟩)) := hk_.got 0 190 _ (by kernel_rfl) rfl rfl
                    have hx_ := hk_.ext
                    clear hk_
                    refine flow_plain rfl ?_
                    unfold gives
                    have hc_ : ∀ v, a_.eval (.const v) = v := fun _ => rfl
                    have hn_ : ∀ f, a_.eval (.func f) = .func (.func f) #[] #[] := fun _ => rfl
                    generalize a_.eval = ρ_ at *
                    go_simp
                    exact (records_V w_ (HIY.out.has.log.below hx_ HIY.out.below.size) HIY.out.has.size).mono fun e w' ⟨v, h1, h2, h3⟩ => ⟨v, h1, h3, h2⟩
                  refine allFrom_cons ?_ ?_
                  · intro a_ w_ hk_
                    have h11 : a_.eval (.tmp 11) = .slice Av L.rows.length cv := hk_.old 11 (by kernel_rfl)
                    have hx_ := hk_.ext
                    clear hk_
                    refine flow_plain rfl ?_
                    exact gives_move rfl ⟨Below.refl _ _, h11⟩
                  refine allFrom_cons ?_ ?_
                  · intro a_ w_ hk_
                    have h191 : (FP.rows L.rows).p (a_.eval (.tmp 191)) w_ := hk_.got 1 191 _ (by kernel_rfl) rfl rfl
                    have h192 : a_.eval (.tmp 192) = (.slice Av L.rows.length cv) := hk_.got 2 192 _ (by kernel_rfl) rfl rfl
                    have hx_ := hk_.ext
                    clear hk_
                    refine flow_plain rfl ?_
                    obtain ⟨A191, c191, h191, r191⟩ := h191
                    have hs_ := same_V w_ (show RdV w_ w_.heap.size (a_.eval (.tmp 191)) L.rows from ⟨A191, c191, h191, r191⟩) (show StrV w_ (a_.eval (.tmp 192)) L.rows by rw [h192]; exact HST.out.below hx_) (by omega)
                    unfold gives
                    have hc_ : ∀ v, a_.eval (.const v) = v := fun _ => rfl
                    have hn_ : ∀ f, a_.eval (.func f) = .func (.func f) #[] #[] := fun _ => rfl
                    clear h191 h192
                    generalize a_.eval = ρ_ at *
                    go_simp
                    exact hs_.mono fun e w' ⟨h1, h2⟩ => ⟨_, h1, h2, by show Value.bool _ = _; rw [show sameB L.rows L.rows = true from decide_eq_true rfl]⟩
                  refine allFrom_cons ?_ ?_
                  · intro a_ w_ hk_
                    have h193 : a_.eval (.tmp 193) = (.bool true) := hk_.got 3 193 _ (by kernel_rfl) rfl rfl
                    have hx_ := hk_.ext
                    clear hk_
                    refine flow_plain rfl ?_
                    unfold gives
                    have hc_ : ∀ v, a_.eval (.const v) = v := fun _ => rfl
                    have hn_ : ∀ f, a_.eval (.func f) = .func (.func f) #[] #[] := fun _ => rfl
                    generalize a_.eval = ρ_ at *
                    go_simp
                    exact ⟨Below.refl _ _, rfl⟩
                  refine allFrom_cons ?_ ?_
                  · intro a_ w_ hk_
                    have h194 : a_.eval (.tmp 194) = (.bool false) := hk_.got 4 194 _ (by kernel_rfl) rfl rfl
                    have hx_ := hk_.ext
                    clear hk_
                    refine flow_plain rfl ?_
                    exact gives_move rfl ⟨Below.refl _ _, h194⟩
                  refine allFrom_cons ?_ ?_
                  · intro a_ w_ hk_
                    have h8 : a_.eval (.tmp 8) = .pointer (some ⟨glo, 0, none⟩) := hk_.old 8 (by kernel_rfl)
                    have hg_ : a_.eval (.tmp 195) = .bool false := hk_.got 5 195 _ (by kernel_rfl) rfl rfl
                    have hy_ := hk_.want 5 _ 195 false rfl rfl hg_
                    have hx_ := hk_.ext
                    clear hk_
                    refine flow_want rfl hy_ ?_
                    exact gives_move rfl ⟨Below.refl _ _, h8⟩
                  refine allFrom_cons ?_ ?_
                  · intro a_ w_ hk_
                    have h196 : a_.eval (.tmp 196) = (.pointer (some ⟨glo, 0, none⟩)) := hk_.got 6 196 _ (by kernel_rfl) rfl rfl
                    have hg_ : a_.eval (.tmp 195) = .bool false := hk_.got 5 195 _ (by kernel_rfl) rfl rfl
                    have hy_ := hk_.want 5 _ 195 false rfl rfl hg_
                    have hx_ := hk_.ext
                    clear hk_
                    refine flow_want rfl hy_ ?_
                    unfold gives
                    have hc_ : ∀ v, a_.eval (.const v) = v := fun _ => rfl
                    have hn_ : ∀ f, a_.eval (.func f) = .func (.func f) #[] #[] := fun _ => rfl
                    clear hy_ hg_
                    generalize a_.eval = ρ_ at *
                    go_simp
                    exact (aSure w_ (HIY.out.has.log.below hx_ HIY.out.below.size)).mono fun e w' ⟨h1, h2⟩ => ⟨_, h1, h2 ▸ Below.refl _ _, by rw [HSL.out]; rfl⟩
                  refine allFrom_cons ?_ ?_
                  · intro a_ w_ hk_
                    have h11 : a_.eval (.tmp 11) = .slice Av L.rows.length cv := hk_.old 11 (by kernel_rfl)
                    have hg_ : a_.eval (.tmp 195) = .bool false := hk_.got 5 195 _ (by kernel_rfl) rfl rfl
                    have hy_ := hk_.want 5 _ 195 false rfl rfl hg_
                    have hx_ := hk_.ext
                    clear hk_
                    refine flow_want rfl hy_ ?_
                    exact gives_move rfl ⟨Below.refl _ _, h11⟩
                  refine allFrom_cons ?_ ?_
                  · intro a_ w_ hk_
                    have h198 : a_.eval (.tmp 198) = (.slice Av L.rows.length cv) := hk_.got 8 198 _ (by kernel_rfl) rfl rfl
                    have hg_ : a_.eval (.tmp 195) = .bool false := hk_.got 5 195 _ (by kernel_rfl) rfl rfl
                    have hy_ := hk_.want 5 _ 195 false rfl rfl hg_
                    have hx_ := hk_.ext
                    clear hk_
                    refine flow_want rfl hy_ ?_
                    unfold gives
                    have hc_ : ∀ v, a_.eval (.const v) = v := fun _ => rfl
                    have hn_ : ∀ f, a_.eval (.func f) = .func (.func f) #[] #[] := fun _ => rfl
                    clear hy_ hg_
                    generalize a_.eval = ρ_ at *
                    go_simp
                    exact ⟨Below.refl _ _, rfl⟩
                  refine allFrom_cons ?_ ?_
                  · intro a_ w_ hk_
                    have h197 : a_.eval (.tmp 197) = (.int .i64 sL) := hk_.got 7 197 _ (by kernel_rfl) rfl rfl
                    have h199 : a_.eval (.tmp 199) = (.int .i64 (L.rows.length : Int)) := hk_.got 9 199 _ (by kernel_rfl) rfl rfl
                    have hg_ : a_.eval (.tmp 195) = .bool false := hk_.got 5 195 _ (by kernel_rfl) rfl rfl
                    have hy_ := hk_.want 5 _ 195 false rfl rfl hg_
                    have hx_ := hk_.ext
                    clear hk_
                    refine flow_want rfl hy_ ?_
                    unfold gives
                    have hc_ : ∀ v, a_.eval (.const v) = v := fun _ => rfl
                    have hn_ : ∀ f, a_.eval (.func f) = .func (.func f) #[] #[] := fun _ => rfl
                    clear hy_ hg_
                    generalize a_.eval = ρ_ at *
                    go_simp
                    exact ⟨Below.refl _ _, congrArg Value.bool (decide_eq_false (by omega))⟩
                  refine allFrom_cons ?_ ?_
                  · intro a_ w_ hk_
                    have h195 : a_.eval (.tmp 195) = (.bool false) := hk_.got 5 195 _ (by kernel_rfl) rfl rfl
                    have h200 : a_.eval (.tmp 200) = (.bool false) := hk_.got 10 200 _ (by kernel_rfl) rfl rfl
                    have hx_ := hk_.ext
                    clear hk_
                    refine flow_plain rfl ?_
                    exact gives_pick rfl h195 ⟨Below.refl _ _, h200⟩
                  exact allFrom_nil
                intro f_ w_ hx_ hf_
                have h190 : f_ 190 = (.pointer (some ⟨glo, 0, none⟩)) := hf_ 0 190 _ (by decide) rfl rfl
                have h191 : (FP.rows L.rows).p (f_ 191) w_ := hf_ 1 191 _ (by decide) rfl rfl
                have h192 : f_ 192 = (.slice Av L.rows.length cv) := hf_ 2 192 _ (by decide) rfl rfl
                have h193 : f_ 193 = (.bool true) := hf_ 3 193 _ (by decide) rfl rfl
                have h194 : f_ 194 = (.bool false) := hf_ 4 194 _ (by decide) rfl rfl
                have h195 : f_ 195 = (.bool false) := hf_ 5 195 _ (by decide) rfl rfl
                have h196 : f_ 196 = (.pointer (some ⟨glo, 0, none⟩)) := hf_ 6 196 _ (by decide) rfl rfl
                have h197 : f_ 197 = (.int .i64 sL) := hf_ 7 197 _ (by decide) rfl rfl
                have h198 : f_ 198 = (.slice Av L.rows.length cv) := hf_ 8 198 _ (by decide) rfl rfl
                have h199 : f_ 199 = (.int .i64 (L.rows.length : Int)) := hf_ 9 199 _ (by decide) rfl rfl
                have h200 : f_ 200 = (.bool false) := hf_ 10 200 _ (by decide) rfl rfl
                have h201 : f_ 201 = (.bool false) := hf_ 11 201 _ (by decide) rfl rfl
                simp only [mix, h190, h192, h193, h194, h195, h196, h197, h198, h199, h200, h201]
                clear h190 h192 h193 h194 h195 h196 h197 h198 h199 h200 h201
                clear hf_
                have HF9 := hid (HIY.out.below' hx_)
                rw [HVE.out] at HF9
                clear HIY hx_ HST
                go_wp2_with fail
                exact ⟨⟨i + 1, glo, _, L, rs, hlt, by omega, by push_cast; rfl, rfl, HF9.out⟩, by show acts.length - ((i : Int) + 1).toNat < acts.length - (i : Int).toNat; omega⟩
      · have hl20i : ¬ (i : Int) < 20 := by omega
        go_wp2_with fail
        refine wp_hold (wp_region_lit ?_)
        refine wp_flowSE [0, 1, 3, 7, 15, 31, 63, 127] 8 [false, false, false, false, false, false, false, false, false, false, false, false, false, false, false, false, false, false, false, false, false, false, false, false, false, false, false, false, false, false, false, false, false, false, false, false, false, false, true, true, true, true, true, true, true, true] (by kernel_rfl) (by kernel_rfl) (by kernel_rfl) [FP.eq (.int .i64 (i : Int)), FP.eq (.slice As acts.length cs), FP.eq (.int .i64 (acts.length : Int)), FP.eq (.bool true), FP.eq (.bool true), FP.eq (.int .i64 (i : Int)), FP.eq (.bool false), FP.eq (.bool false)] ?_ ?_
        · refine allFrom_cons ?_ ?_
          · intro a_ w_ hk_
            have h12 : a_.eval (.tmp 12) = .int .i64 (i : Int) := hk_.old 12 (by kernel_rfl)
            have hx_ := hk_.ext
            clear hk_
            refine flow_plain rfl ?_
            exact gives_move rfl ⟨Below.refl _ _, h12⟩
          refine allFrom_cons ?_ ?_
          · intro a_ w_ hk_
            have h0 : a_.eval (.tmp 0) = .slice As acts.length cs := hk_.old 0 (by kernel_rfl)
            have hx_ := hk_.ext
            clear hk_
            refine flow_plain rfl ?_
            exact gives_move rfl ⟨Below.refl _ _, h0⟩
          refine allFrom_cons ?_ ?_
          · intro a_ w_ hk_
            have h39 : a_.eval (.tmp 39) = (.slice As acts.length cs) := hk_.got 1 39 _ (by kernel_rfl) rfl rfl
            have hx_ := hk_.ext
            clear hk_
            refine flow_plain rfl ?_
            unfold gives
            have hc_ : ∀ v, a_.eval (.const v) = v := fun _ => rfl
            have hn_ : ∀ f, a_.eval (.func f) = .func (.func f) #[] #[] := fun _ => rfl
            generalize a_.eval = ρ_ at *
            go_simp
            exact ⟨Below.refl _ _, rfl⟩
          refine allFrom_cons ?_ ?_
          · intro a_ w_ hk_
            have h38 : a_.eval (.tmp 38) = (.int .i64 (i : Int)) := hk_.got 0 38 _ (by kernel_rfl) rfl rfl
            have h40 : a_.eval (.tmp 40) = (.int .i64 (acts.length : Int)) := hk_.got 2 40 _ (by kernel_rfl) rfl rfl
            have hx_ := hk_.ext
            clear hk_
            refine flow_plain rfl ?_
            unfold gives
            have hc_ : ∀ v, a_.eval (.const v) = v := fun _ => rfl
            have hn_ : ∀ f, a_.eval (.func f) = .func (.func f) #[] #[] := fun _ => rfl
            generalize a_.eval = ρ_ at *
            go_simp
            exact ⟨Below.refl _ _, rfl⟩
          refine allFrom_cons ?_ ?_
          · intro a_ w_ hk_
            have h41 : a_.eval (.tmp 41) = (.bool true) := hk_.got 3 41 _ (by kernel_rfl) rfl rfl
            have hx_ := hk_.ext
            clear hk_
            refine flow_plain rfl ?_
            exact gives_move rfl ⟨Below.refl _ _, h41⟩
          refine allFrom_cons ?_ ?_
          · intro a_ w_ hk_
            have h12 : a_.eval (.tmp 12) = .int .i64 (i : Int) := hk_.old 12 (by kernel_rfl)
            have hg_ : a_.eval (.tmp 42) = .bool true := hk_.got 4 42 _ (by kernel_rfl) rfl rfl
            have hy_ := hk_.want 4 _ 42 true rfl rfl hg_
            have hx_ := hk_.ext
            clear hk_
            refine flow_want rfl hy_ ?_
            exact gives_move rfl ⟨Below.refl _ _, h12⟩
          refine allFrom_cons ?_ ?_
          · intro a_ w_ hk_
            have h43 : a_.eval (.tmp 43) = (.int .i64 (i : Int)) := hk_.got 5 43 _ (by kernel_rfl) rfl rfl
            have hg_ : a_.eval (.tmp 42) = .bool true := hk_.got 4 42 _ (by kernel_rfl) rfl rfl
            have hy_ := hk_.want 4 _ 42 true rfl rfl hg_
            have hx_ := hk_.ext
            clear hk_
            refine flow_want rfl hy_ ?_
            unfold gives
            have hc_ : ∀ v, a_.eval (.const v) = v := fun _ => rfl
            have hn_ : ∀ f, a_.eval (.func f) = .func (.func f) #[] #[] := fun _ => rfl
            clear hy_ hg_
            generalize a_.eval = ρ_ at *
            go_simp
            first | exact ⟨Below.refl _ _, rfl⟩ | exact ⟨Below.refl _ _, congrArg Value.bool (decide_eq_false (by omega))⟩
          refine allFrom_cons ?_ ?_
          · intro a_ w_ hk_
            have h42 : a_.eval (.tmp 42) = (.bool true) := hk_.got 4 42 _ (by kernel_rfl) rfl rfl
            have h44 : a_.eval (.tmp 44) = (.bool false) := hk_.got 6 44 _ (by kernel_rfl) rfl rfl
            have hx_ := hk_.ext
            clear hk_
            refine flow_plain rfl ?_
            exact gives_pick rfl h42 ⟨Below.refl _ _, h44⟩
          exact allFrom_nil
        intro f_ w_ hx_ hf_
        have h38 : f_ 38 = (.int .i64 (i : Int)) := hf_ 0 38 _ (by decide) rfl rfl
        have h39 : f_ 39 = (.slice As acts.length cs) := hf_ 1 39 _ (by decide) rfl rfl
        have h40 : f_ 40 = (.int .i64 (acts.length : Int)) := hf_ 2 40 _ (by decide) rfl rfl
        have h41 : f_ 41 = (.bool true) := hf_ 3 41 _ (by decide) rfl rfl
        have h42 : f_ 42 = (.bool true) := hf_ 4 42 _ (by decide) rfl rfl
        have h43 : f_ 43 = (.int .i64 (i : Int)) := hf_ 5 43 _ (by decide) rfl rfl
        have h44 : f_ 44 = (.bool false) := hf_ 6 44 _ (by decide) rfl rfl
        have h45 : f_ 45 = (.bool false) := hf_ 7 45 _ (by decide) rfl rfl
        simp only [mix, h38, h39, h40, h41, h42, h43, h44, h45]
        clear h38 h39 h40 h41 h42 h43 h44 h45
        clear hf_
        go_wp2_with fail
        exact bodyPost_ret (results_tmp rfl _ _ _) rfl ⟨rfl, bx_trans HBW.out hx_⟩
    · have hlti : ¬ (i : Int) < (acts.length : Int) := by omega
      go_wp2_with fail
      refine wp_hold (wp_region_lit ?_)
      refine wp_flowSE [0, 1, 3, 7, 15, 31, 63, 127] 8 [false, false, false, false, false, false, false, false, false, false, false, false, false, false, false, false, false, false, false, false, false, false, false, false, false, false, false, false, false, false, false, false, false, false, false, false, false, false, true, true, true, true, true, true, true, true] (by kernel_rfl) (by kernel_rfl) (by kernel_rfl) [FP.eq (.int .i64 (i : Int)), FP.eq (.slice As acts.length cs), FP.eq (.int .i64 (acts.length : Int)), FP.eq (.bool false), FP.eq (.bool false), FP.any, FP.any, FP.eq (.bool false)] ?_ ?_
      · refine allFrom_cons ?_ ?_
        · intro a_ w_ hk_
          have h12 : a_.eval (.tmp 12) = .int .i64 (i : Int) := hk_.old 12 (by kernel_rfl)
          have hx_ := hk_.ext
          clear hk_
          refine flow_plain rfl ?_
          exact gives_move rfl ⟨Below.refl _ _, h12⟩
        refine allFrom_cons ?_ ?_
        · intro a_ w_ hk_
          have h0 : a_.eval (.tmp 0) = .slice As acts.length cs := hk_.old 0 (by kernel_rfl)
          have hx_ := hk_.ext
          clear hk_
          refine flow_plain rfl ?_
          exact gives_move rfl ⟨Below.refl _ _, h0⟩
        refine allFrom_cons ?_ ?_
        · intro a_ w_ hk_
          have h39 : a_.eval (.tmp 39) = (.slice As acts.length cs) := hk_.got 1 39 _ (by kernel_rfl) rfl rfl
          have hx_ := hk_.ext
          clear hk_
          refine flow_plain rfl ?_
          unfold gives
          have hc_ : ∀ v, a_.eval (.const v) = v := fun _ => rfl
          have hn_ : ∀ f, a_.eval (.func f) = .func (.func f) #[] #[] := fun _ => rfl
          generalize a_.eval = ρ_ at *
          go_simp
          exact ⟨Below.refl _ _, rfl⟩
        refine allFrom_cons ?_ ?_
        · intro a_ w_ hk_
          have h38 : a_.eval (.tmp 38) = (.int .i64 (i : Int)) := hk_.got 0 38 _ (by kernel_rfl) rfl rfl
          have h40 : a_.eval (.tmp 40) = (.int .i64 (acts.length : Int)) := hk_.got 2 40 _ (by kernel_rfl) rfl rfl
          have hx_ := hk_.ext
          clear hk_
          refine flow_plain rfl ?_
          unfold gives
          have hc_ : ∀ v, a_.eval (.const v) = v := fun _ => rfl
          have hn_ : ∀ f, a_.eval (.func f) = .func (.func f) #[] #[] := fun _ => rfl
          generalize a_.eval = ρ_ at *
          go_simp
          first | exact ⟨Below.refl _ _, rfl⟩ | exact ⟨Below.refl _ _, congrArg Value.bool (decide_eq_false (by omega))⟩
        refine allFrom_cons ?_ ?_
        · intro a_ w_ hk_
          have h41 : a_.eval (.tmp 41) = (.bool false) := hk_.got 3 41 _ (by kernel_rfl) rfl rfl
          have hx_ := hk_.ext
          clear hk_
          refine flow_plain rfl ?_
          exact gives_move rfl ⟨Below.refl _ _, h41⟩
        refine allFrom_cons ?_ ?_
        · intro a_ w_ hk_
          have h12 : a_.eval (.tmp 12) = .int .i64 (i : Int) := hk_.old 12 (by kernel_rfl)
          have hg_ : a_.eval (.tmp 42) = .bool false := hk_.got 4 42 _ (by kernel_rfl) rfl rfl
          have hy_ := hk_.want 4 _ 42 false rfl rfl hg_
          have hx_ := hk_.ext
          clear hk_
          exact flow_skip rfl hy_ (by decide) trivial
        refine allFrom_cons ?_ ?_
        · intro a_ w_ hk_
          have hg_ : a_.eval (.tmp 42) = .bool false := hk_.got 4 42 _ (by kernel_rfl) rfl rfl
          have hy_ := hk_.want 4 _ 42 false rfl rfl hg_
          have hx_ := hk_.ext
          clear hk_
          exact flow_skip rfl hy_ (by decide) trivial
        refine allFrom_cons ?_ ?_
        · intro a_ w_ hk_
          have h42 : a_.eval (.tmp 42) = (.bool false) := hk_.got 4 42 _ (by kernel_rfl) rfl rfl
          have hx_ := hk_.ext
          clear hk_
          refine flow_plain rfl ?_
          exact gives_pick rfl h42 ⟨Below.refl _ _, rfl⟩
        exact allFrom_nil
      intro f_ w_ hx_ hf_
      have h38 : f_ 38 = (.int .i64 (i : Int)) := hf_ 0 38 _ (by decide) rfl rfl
      have h39 : f_ 39 = (.slice As acts.length cs) := hf_ 1 39 _ (by decide) rfl rfl
      have h40 : f_ 40 = (.int .i64 (acts.length : Int)) := hf_ 2 40 _ (by decide) rfl rfl
      have h41 : f_ 41 = (.bool false) := hf_ 3 41 _ (by decide) rfl rfl
      have h42 : f_ 42 = (.bool false) := hf_ 4 42 _ (by decide) rfl rfl
      have h45 : f_ 45 = (.bool false) := hf_ 7 45 _ (by decide) rfl rfl
      simp only [mix, h38, h39, h40, h41, h42, h45]
      clear h38 h39 h40 h41 h42 h45
      clear hf_
      go_wp2_with fail
      exact bodyPost_ret (results_tmp rfl _ _ _) rfl ⟨rfl, bx_trans HBW.out hx_⟩
end Go.Proofs.Ytlpdiamgpnmeoaa
