
/- Records: WalStays walked. -/
import Derived.Test.YtlpdiamgpnmeoaaWaTurns
namespace Go.Proofs.Ytlpdiamgpnmeoaa
open Go.RowKit
set_option linter.unusedVariables false
/-- What the rounds of WalStays keep. -/
structure StayI (w0 : World) (g gl i : Nat) (D : DS) (L : LS) (rs : List (List UInt8)) (wr : World) : Prop where
  has : Has wr w0.heap.size gl g D L rs
  n : D.n = 100
  size : L.size = 49
  turn : L.turn ≤ i
  loose : D.loose.length ≤ i * 60
  below : Below w0.heap.size w0 wr
  rows : L.rows = rs
  rl : rs.length = i
  len : L.b.length ≤ i * 608
/-- A log whose disk failed. -/
structure FellI (w0 : World) (g gl : Nat) (D : DS) (L : LS) (n : Nat) (wr : World) : Prop where
  log : ALog wr w0.heap.size gl g D L
  e : L.e = 30
  size : L.size = 49
  turn : L.turn ≤ 20
  loose : D.loose.length ≤ 1000
  below : Below w0.heap.size w0 wr
  rl : L.rows.length = n
  s1 : L.sure ≤ n
  s2 : n ≤ L.sure + 1
theorem i64_wrapS {n : Int} (h0 : -9223372036854775808 ≤ n) (h1 : n < 9223372036854775808) : IntKind.i64.wrap n = n := by simp only [IntKind.wrap, IntKind.bits, IntKind.signed]; simp; omega
theorem appS_e {D : DS} {L : LS} (h : L.e ≠ 0) (b : List UInt8) : appS D L b = (L.e, D, L) := by unfold appS; rw [if_pos h]
theorem synS_e {D : DS} {L : LS} (h : L.e ≠ 0) : synS D L = (L.e, D, L) := by unfold synS; rw [if_pos (.inl h)]
theorem cmpS_e {D : DS} {L : LS} (h : L.e ≠ 0) (rs : List (List UInt8)) : cmpS D L rs = (L.e, D, L) := by unfold cmpS; rw [if_pos h]
theorem FellI.frame {w0 wr w' : World} {g gl n : Nat} {D : DS} {L : LS} {ex : List Nat} (h : FellI w0 g gl D L n wr) (hl : ALog w' w0.heap.size gl g D L) (hx : XFr ex w0.heap.size wr w') : FellI w0 g gl D L n w' := ⟨hl, h.e, h.size, h.turn, h.loose, h.below.trans hx.below, h.rl, h.s1, h.s2⟩
set_option maxRecDepth 100000 in
set_option maxHeartbeats 4000000 in
theorem WalStays_walk (w : World) (Ar : Option Addr) (cr : Nat) (rows : List (List UInt8)) (hcr : rows.length ≤ cr) (hmr : cr ≤ maxLen) (hsr : ∀ l ∈ rows, l.length ≤ maxLen) (hrr : RdBB w w.heap.size Ar rows) (af : Int) (haf : (Lit.int .u8 af).wf = true) (Am : Option Addr) (cm : Nat) (more : List UInt8) (hcm : more.length ≤ cm) (hmm : cm ≤ maxLen) (hrm : Rd w w.heap.size Am (more.map cb)) :
    Calls Try.prog 8 #[.slice Ar rows.length cr, .int .u8 af, .slice Am more.length cm] w fun e w' => e = .returned (.bool true) ∧ Below w.heap.size w w' := by
  obtain ⟨n0, n1⟩ := bounds_u8 haf
  obtain ⟨an, rfl⟩ := Int.eq_ofNat_of_zero_le n0
  have ha8 : (UInt8.ofNat an).toNat = an := by rw [UInt8.toNat_ofNat']; omega
  obtain ⟨q, hq⟩ : ∃ q, q = an &&& 15 := ⟨_, rfl⟩
  have hq2 : bits BinOp.and IntKind.u8 (an : Int) 15 = (q : Int) := by
    have := and_u8 (UInt8.ofNat an) 15 (by decide)
    rw [ha8] at this
    rw [hq]
    exact this
  have hq16 : q < 16 := by rw [hq]; exact Nat.lt_of_le_of_lt Nat.and_le_right (by decide)
  have HRR := hid hrr
  have HRM := hid hrm
  have HMR := hid hmr
  clear hrr hrm hmr hmm hsr haf hq ha8
  go_enter Try.func8, Try.ntmps8
  rw [hold 24, hold 25]
  go_wp2_with fail
  refine (awake_any _).mono ?_
  rintro e w0 ⟨rfl, hb0⟩
  go_wp2_with fail
  refine (few_any w0 ((HRR.out.below hb0).more hb0.size) hcr HMR.out).mono ?_
  rintro e w0' ⟨rfl, rfl⟩
  obtain ⟨F, hF⟩ : ∃ F, F = fewB rows := ⟨_, rfl⟩
  rw [← hF]
  have HF := hid hF
  clear hF
  cases F with
  | false =>
    go_wp2_with fail
    exact bodyPost_ret (results_tmp rfl _ _ _) rfl ⟨rfl, hb0⟩
  | true =>
  by_cases hs0 : 300 < more.length
  · have hsi : (300 : Int) < (more.length : Int) := by omega
    go_wp2_with fail
    exact bodyPost_ret (results_tmp rfl _ _ _) rfl ⟨rfl, hb0⟩
  have hsi : ¬ (300 : Int) < (more.length : Int) := by omega
  have hr10 := (fewB_len HF.out.symm).1
  have H6 := hid (fewB_600 HF.out.symm)
  have HB0 := hid hb0
  have hB0 : w.heap.size ≤ w0.heap.size := hb0.size
  clear hb0
  go_wp2_with fail
  refine (New_yes w0 100 (by decide) (by decide)).mono ?_
  rintro e w1 ⟨g, rfl, hd1, hb1⟩
  go_wp2_with fail
  refine (cOpen w1 hd1 hb1.size (by decide) rfl rfl (new_dur 100 (by omega))).mono ?_
  rintro e w2 ⟨gl, rfl, hh2, hb2⟩
  rw [show sizeD (newD 100) = 49 from rfl] at hh2
  have hb02 := bx_trans hb1 hb2
  go_wp2_with fail
  refine (Fail_any w2 hh2.disk (q : Int) (by omega)).mono ?_
  rintro e w3 ⟨rfl, hd3, hf3⟩
  have hh3 : Has w3 w0.heap.size gl g (failD (newD 100) (q : Int)) { size := 49, turn := 0, area := 0, b := framL [], rows := [], sure := ([] : List (List UInt8)).length, e := 0 } [] := by
    obtain ⟨⟨vb, vr, vs, hl⟩, hi⟩ := hh2
    exact ⟨⟨vb, vr, vs, hl.dfr hd3 hf3 rfl⟩, ⟨hi.size, hi.dur, hi.harm, hi.read, hi.b, hi.pre, hi.sure, hi.short, hi.fit, hi.e, hi.alive, hi.n4⟩⟩
  have hI0 : StayI w0 g gl 0 (failD (newD 100) (q : Int)) { size := 49, turn := 0, area := 0, b := framL [], rows := [], sure := ([] : List (List UInt8)).length, e := 0 } [] w3 := ⟨hh3, rfl, rfl, Nat.le_refl _, Nat.le_refl _, hb02.trans hf3.below, rfl, rfl, Nat.le_refl _⟩
  clear hd1 hh2 hh3 hd3 hf3 hb02 hb1 hb2
  go_wp2_with fail
  go_loopw [13, 14, 15] (fun v13 v14 _ wr => ∃ (i : Nat) (D : DS) (L : LS), i ≤ rows.length ∧ v14 = .int .i64 (i : Int) ∧ v13 = .int .i64 (i : Int) ∧ StayI w0 g gl i D L (rows.take i) wr) (fun _ v14 _ _ => rows.length - (ofInt v14).toNat)
  case atStart => exact ⟨0, _, _, Nat.zero_le _, rfl, rfl, hI0⟩
  case round =>
    obtain ⟨i, D, L, hi, rfl, rfl, hI⟩ := hrel
    rename World => wr
    clear hI0
    by_cases hlt : i < rows.length
    · have hlti : (i : Int) < (rows.length : Int) := by omega
      have hbw := HB0.out.trans (hI.below.mono hB0)
      obtain ⟨gb, off, Ax, cx, rfl, hgb, hcell, hcx, hrx⟩ := HRR.out.at_ (k := i) hlt
      have hck := (hbw.cell (p := ⟨gb, off + i, none⟩) hgb).trans hcell
      have hx6 := H6.out rows[i] (List.getElem_mem hlt)
      obtain ⟨x, hx⟩ : ∃ x, x = rows[i] := ⟨_, rfl⟩
      have htk : rows.take (i + 1) = rows.take i ++ [x] := by rw [hx, List.take_succ_eq_append_getElem hlt]
      rw [← hx] at hck hcx hrx hx6
      have hap := Append_any wr hI.has.log hI.below.size (by rw [hI.size]; decide) (by rw [hI.size]; have := hI.loose; omega) (b := x) (c := cx) (A := Ax) (fun W hxf => (hrx.below (hbw.trans (hxf.below.mono hB0))).more (hbw.trans (hxf.below.mono hB0)).size) hcx (by omega)
      have hout := app_inv hI.has.inv (b := x) (by omega)
      have hlo := app_loose (D := D) (b := x) hI.has.inv.fit
      obtain ⟨R, hR⟩ : ∃ R, R = appS D L x := ⟨_, rfl⟩
      rw [← hR] at hap hout hlo
      have HAP := hid hap
      have HI := hid hI
      have HTK := hid htk
      have HOUT := hid hout
      have HLO := hid hlo
      clear hap hI hx htk hcell hrx hout hlo hR
      go_wp2_with fail
      refine HAP.out.mono ?_
      rintro e w3 ⟨rfl, hl3, hx3⟩
      rcases HOUT.out with ⟨o1, o2, o3, o4, o5, o6⟩ | ⟨o1, o2, o3⟩ | ⟨o1, o2, o3, o4, o5, o6⟩
      · rw [o1]
        have hh4 : Has w3 w0.heap.size gl g R.2.1 R.2.2 (rows.take i) := ⟨hl3, o3⟩
        have hb3 := HI.out.below.trans hx3.below
        have p3 : R.2.2.size = 49 ∧ R.2.2.turn ≤ i ∧ R.2.2.rows = rows.take (i + 1) ∧ R.2.2.b.length ≤ (i + 1) * 608 := by
          rw [o4]
          refine ⟨HI.out.size, HI.out.turn, ?_, ?_⟩
          · show L.rows ++ [x] = _
            rw [HI.out.rows, HTK.out]
          · show (L.b ++ frameL x).length ≤ _
            rw [List.length_append, frameL_len]
            have := HI.out.len
            omega
        have q3 : R.2.1.n = 100 ∧ R.2.1.loose.length ≤ i * 60 + 49 := by have h1 := HLO.out; have h2 := HI.out.loose; have h3 := HI.out.size; have h4 := HI.out.n; omega
        have hsy := LSync_any w3 hl3 hb3.size (by rw [p3.1]; decide) (by omega) (by omega)
        have hsi3 := syn_inv o3 (by omega)
        have hsl := syn_loose R.2.1 R.2.2
        obtain ⟨S, hS⟩ : ∃ S, S = synS R.2.1 R.2.2 := ⟨_, rfl⟩
        rw [← hS] at hsy hsi3 hsl
        have hsr4 := o3.sure
        have HSR4 := hid hsr4
        clear hsr4
        have HSY := hid hsy
        have HSI3 := hid hsi3
        have HP3 := hid p3
        have HRL := hid (show (rows.take (i + 1)).length = i + 1 by rw [List.length_take]; omega)
        clear hS hsy hsi3 o1 o2 o3 o4 o5 o6 hl3 hx3 hh4 HOUT HAP p3
        go_wp2_with fail
        refine HSY.out.mono ?_
        rintro e w4 ⟨rfl, hl4, hx4⟩
        have hb4 := hb3.trans hx4.below
        rcases HSI3.out with ⟨u1, u2, u3, u4, u5, u6, u7, u8⟩ | ⟨u1, u2, u3, u4, u5, u6⟩
        · rw [u1]
          rw [HP3.out.2.2.1] at u2 u3
          have hI4 : StayI w0 g gl (i + 1) S.2.1 S.2.2 (rows.take (i + 1)) w4 := ⟨⟨hl4, u2⟩, u8.trans q3.1, u5.trans HP3.out.1, by have := HP3.out.2.1; omega, by omega, hb4, u3, HRL.out, by rw [u4]; exact HP3.out.2.2.2⟩
          have HI4 := hid hI4
          clear hI4 u1 u2 u3 u4 u5 u6 u7 u8 hl4 hx4 HSI3 HSY
          go_wp2_with fail
          exact ⟨⟨i + 1, S.2.1, S.2.2, hlt, by push_cast; rfl, by push_cast; rfl, HI4.out⟩, by show rows.length - ((i : Int) + 1).toNat < rows.length - (i : Int).toNat; omega⟩
        · rw [u1]
          rw [u2] at hl4
          have hsr3 : R.2.2.sure = i := by
            rw [HSR4.out]
            exact HI.out.rl
          have hFL : FellI w0 g gl S.2.1 { R.2.2 with e := 30 } (i + 1) w4 := ⟨hl4, rfl, HP3.out.1, by have := HP3.out.2.1; show R.2.2.turn ≤ 20; omega, by omega, hb4, by show R.2.2.rows.length = i + 1; rw [HP3.out.2.2.1]; exact HRL.out, by show R.2.2.sure ≤ i + 1; omega, by show i + 1 ≤ R.2.2.sure + 1; omega⟩
          obtain ⟨L4, hL4⟩ : ∃ L4 : LS, L4 = { R.2.2 with e := 30 } := ⟨_, rfl⟩
          rw [← hL4] at hFL
          have hcv : (i : Int) + 1 = ((i + 1 : Nat) : Int) := by push_cast; rfl
          have HCV := hid hcv
          clear hL4 hcv u1 u2 u3 u4 u5 u6 hl4 hx4 HSI3 HSY HP3 HRL hsr3 q3 hsl
          have HFL := hid hFL
          clear hlt hlti
          have HRM2 := hid (fun (W : World) (hb : Below w0.heap.size w0 W) => (HRM.out.below (HB0.out.trans (hb.mono hB0))).more (HB0.out.trans (hb.mono hB0)).size)
          have hca := Append_any w4 HFL.out.log HFL.out.below.size (by rw [HFL.out.size]; decide) (by rw [HFL.out.size]; have := HFL.out.loose; omega) (b := more) (c := cm) (A := Am) (fun W hxf => HRM2.out W (HFL.out.below.trans hxf.below)) hcm (by omega)
          rw [appS_e (by rw [HFL.out.e]; decide), HFL.out.e] at hca
          have HCA := hid hca
          clear hca
          go_wp2_with fail
          refine HCA.out.mono ?_
          rintro e w7 ⟨rfl, hl7, hx7⟩
          have hF7 := HFL.out.frame hl7 hx7
          have hcs := LSync_any w7 hF7.log hF7.below.size (by rw [hF7.size]; decide) (by have := hF7.loose; omega) (by have := hF7.turn; omega)
          rw [synS_e (by rw [hF7.e]; decide), hF7.e] at hcs
          have HCS := hid hcs
          have HF7 := hid hF7
          clear hcs hF7 hl7 hx7 HCA
          go_wp2_with fail
          refine HCS.out.mono ?_
          rintro e w8 ⟨rfl, hl8, hx8⟩
          have hF8 := HF7.out.frame hl8 hx8
          have hcc := Compact_any w8 hF8.log hF8.below.size (by rw [hF8.size]; decide) (by rw [hF8.size]; have := hF8.loose; omega) (by have := hF8.turn; omega) (A := none) (c := 0) (rs := []) (fun W hx => .inl rfl) (Nat.zero_le _) (fun r hr => by cases hr)
          rw [cmpS_e (by rw [hF8.e]; decide), hF8.e] at hcc
          have HCC := hid hcc
          have HF8 := hid hF8
          clear hcc hF8 hl8 hx8 HCS
          go_wp2_with fail
          refine HCC.out.mono ?_
          rintro e w9 ⟨rfl, hl9, hx9⟩
          have hF9 := HF8.out.frame hl9 hx9
          have HF9 := hid hF9
          obtain ⟨si, hsi2⟩ : ∃ si : Int, si = ((L4.sure : Nat) : Int) := ⟨_, rfl⟩
          obtain ⟨ni, hni⟩ : ∃ ni : Int, ni = ((i + 1 : Nat) : Int) := ⟨_, rfl⟩
          have hle1 : si ≤ ni := by have := hF9.s1; omega
          have hle2 : ni - 1 ≤ si := by have := hF9.s2; omega
          have hni1 : 0 ≤ ni ∧ ni ≤ 100 := by omega
          have HSI := hid hsi2
          have HNI := hid hni
          rw [HCV.out]
          rw [← hni]
          clear hF9 hl9 hx9 HCC hsi2 hni
          go_wp2_with fail
          refine wp_hold (wp_region_lit ?_)
          refine wp_flowSE [0, 1, 3, 7, 15, 31, 63, 127, 255, 511, 1023, 2047, 4095, 8191, 16383, 32767, 65535, 131071, 262143, 524287, 1048575, 2097151, 4194303, 8388607, 16777215, 33554431, 67108863, 134217727, 268435455, 536870911, 1073741823, 2147483647, 4294967295, 8589934591, 17179869183, 34359738367, 68719476735, 137438953471, 274877906943, 549755813887, 1099511627775, 2199023255551, 4398046511103, 8796093022207] 44 [false, false, false, false, false, false, true, false, false, false, false, false, false, false, false, false, false, false, false, false, false, false, false, false, false, false, false, false, false, false, false, false, false, false, false, false, false, false, false, false, false, false, false, false, false, false, false, false, false, false, false, false, false, false, false, false, false, false, false, false, false, false, false, false, false, false, false, false, false, false, false, false, false, false, true, true, true, true, true, true, true, true, true, true, true, true, true, true, true, true, true, true, true, true, true, true, true, true, true, true, true, true, true, true, true, true, true, true, true, true, true, true, true, true, true, true, true] (by kernel_rfl) (by kernel_rfl) (by kernel_rfl) [FP.eq (.int .i64 30), FP.eq (.bool true), FP.eq (.bool true), FP.eq (.int .i64 30), FP.eq (.int .i64 30), FP.eq (.bool true), FP.eq (.bool true), FP.eq (.bool true), FP.eq (.int .i64 30), FP.eq (.int .i64 30), FP.eq (.bool true), FP.eq (.bool true), FP.eq (.bool true), FP.eq (.int .i64 30), FP.eq (.int .i64 30), FP.eq (.bool true), FP.eq (.bool true), FP.eq (.bool true), FP.eq (.pointer (some ⟨gl, 0, none⟩)), FP.eq (.int .i64 30), FP.eq (.int .i64 30), FP.eq (.bool true), FP.eq (.bool true), FP.eq (.bool true), FP.eq (.pointer (some ⟨gl, 0, none⟩)), FP.rows L4.rows, FP.eq (.int .i64 ni), FP.eq (.int .i64 ni), FP.eq (.bool true), FP.eq (.bool true), FP.eq (.bool true), FP.eq (.pointer (some ⟨gl, 0, none⟩)), FP.eq (.int .i64 si), FP.eq (.int .i64 ni), FP.eq (.bool true), FP.eq (.bool true), FP.eq (.bool true), FP.eq (.pointer (some ⟨gl, 0, none⟩)), FP.eq (.int .i64 si), FP.eq (.int .i64 ni), FP.eq (.int .i64 (ni - 1)), FP.eq (.bool true), FP.eq (.bool true), FP.eq (.bool true)] ?_ ?_
          · refine allFrom_cons ?_ ?_
            · intro a_ w_ hk_
              have h15 : a_.eval (.tmp 15) = .int .i64 30 := hk_.old 15 (by kernel_rfl)
              have hx_ := hk_.ext
              clear hk_
              refine flow_plain rfl ?_
              exact gives_move rfl ⟨Below.refl _ _, h15⟩
            refine allFrom_cons ?_ ?_
            · intro a_ w_ hk_
              have h74 : a_.eval (.tmp 74) = (.int .i64 30) := hk_.got 0 74 _ (by kernel_rfl) rfl rfl
              have hx_ := hk_.ext
              clear hk_
              refine flow_plain rfl ?_
              unfold gives
              have hc_ : ∀ v, a_.eval (.const v) = v := fun _ => rfl
              have hn_ : ∀ f, a_.eval (.func f) = .func (.func f) #[] #[] := fun _ => rfl
              generalize a_.eval = ρ_ at *
              go_simp
              exact ⟨Below.refl _ _, rfl⟩
            refine allFrom_cons ?_ ?_
            · intro a_ w_ hk_
              have h75 : a_.eval (.tmp 75) = (.bool true) := hk_.got 1 75 _ (by kernel_rfl) rfl rfl
              have hx_ := hk_.ext
              clear hk_
              refine flow_plain rfl ?_
              exact gives_move rfl ⟨Below.refl _ _, h75⟩
            refine allFrom_cons ?_ ?_
            · intro a_ w_ hk_
              have h16 : a_.eval (.tmp 16) = .int .i64 30 := hk_.old 16 (by kernel_rfl)
              have hg_ : a_.eval (.tmp 76) = .bool true := hk_.got 2 76 _ (by kernel_rfl) rfl rfl
              have hy_ := hk_.want 2 _ 76 true rfl rfl hg_
              have hx_ := hk_.ext
              clear hk_
              refine flow_want rfl hy_ ?_
              exact gives_move rfl ⟨Below.refl _ _, h16⟩
            refine allFrom_cons ?_ ?_
            · intro a_ w_ hk_
              have h15 : a_.eval (.tmp 15) = .int .i64 30 := hk_.old 15 (by kernel_rfl)
              have hg_ : a_.eval (.tmp 76) = .bool true := hk_.got 2 76 _ (by kernel_rfl) rfl rfl
              have hy_ := hk_.want 2 _ 76 true rfl rfl hg_
              have hx_ := hk_.ext
              clear hk_
              refine flow_want rfl hy_ ?_
              exact gives_move rfl ⟨Below.refl _ _, h15⟩
            refine allFrom_cons ?_ ?_
            · intro a_ w_ hk_
              have h77 : a_.eval (.tmp 77) = (.int .i64 30) := hk_.got 3 77 _ (by kernel_rfl) rfl rfl
              have h78 : a_.eval (.tmp 78) = (.int .i64 30) := hk_.got 4 78 _ (by kernel_rfl) rfl rfl
              have hg_ : a_.eval (.tmp 76) = .bool true := hk_.got 2 76 _ (by kernel_rfl) rfl rfl
              have hy_ := hk_.want 2 _ 76 true rfl rfl hg_
              have hx_ := hk_.ext
              clear hk_
              refine flow_want rfl hy_ ?_
              unfold gives
              have hc_ : ∀ v, a_.eval (.const v) = v := fun _ => rfl
              have hn_ : ∀ f, a_.eval (.func f) = .func (.func f) #[] #[] := fun _ => rfl
              clear hy_ hg_
              generalize a_.eval = ρ_ at *
              go_simp
              exact ⟨Below.refl _ _, rfl⟩
            refine allFrom_cons ?_ ?_
            · intro a_ w_ hk_
              have h76 : a_.eval (.tmp 76) = (.bool true) := hk_.got 2 76 _ (by kernel_rfl) rfl rfl
              have h79 : a_.eval (.tmp 79) = (.bool true) := hk_.got 5 79 _ (by kernel_rfl) rfl rfl
              have hx_ := hk_.ext
              clear hk_
              refine flow_plain rfl ?_
              exact gives_pick rfl h76 ⟨Below.refl _ _, h79⟩
            refine allFrom_cons ?_ ?_
            · intro a_ w_ hk_
              have h80 : a_.eval (.tmp 80) = (.bool true) := hk_.got 6 80 _ (by kernel_rfl) rfl rfl
              have hx_ := hk_.ext
              clear hk_
              refine flow_plain rfl ?_
              exact gives_move rfl ⟨Below.refl _ _, h80⟩
            refine allFrom_cons ?_ ?_
            · intro a_ w_ hk_
              have h17 : a_.eval (.tmp 17) = .int .i64 30 := hk_.old 17 (by kernel_rfl)
              have hg_ : a_.eval (.tmp 81) = .bool true := hk_.got 7 81 _ (by kernel_rfl) rfl rfl
              have hy_ := hk_.want 7 _ 81 true rfl rfl hg_
              have hx_ := hk_.ext
              clear hk_
              refine flow_want rfl hy_ ?_
              exact gives_move rfl ⟨Below.refl _ _, h17⟩
            refine allFrom_cons ?_ ?_
            · intro a_ w_ hk_
              have h15 : a_.eval (.tmp 15) = .int .i64 30 := hk_.old 15 (by kernel_rfl)
              have hg_ : a_.eval (.tmp 81) = .bool true := hk_.got 7 81 _ (by kernel_rfl) rfl rfl
              have hy_ := hk_.want 7 _ 81 true rfl rfl hg_
              have hx_ := hk_.ext
              clear hk_
              refine flow_want rfl hy_ ?_
              exact gives_move rfl ⟨Below.refl _ _, h15⟩
            refine allFrom_cons ?_ ?_
            · intro a_ w_ hk_
              have h82 : a_.eval (.tmp 82) = (.int .i64 30) := hk_.got 8 82 _ (by kernel_rfl) rfl rfl
              have h83 : a_.eval (.tmp 83) = (.int .i64 30) := hk_.got 9 83 _ (by kernel_rfl) rfl rfl
              have hg_ : a_.eval (.tmp 81) = .bool true := hk_.got 7 81 _ (by kernel_rfl) rfl rfl
              have hy_ := hk_.want 7 _ 81 true rfl rfl hg_
              have hx_ := hk_.ext
              clear hk_
              refine flow_want rfl hy_ ?_
              unfold gives
              have hc_ : ∀ v, a_.eval (.const v) = v := fun _ => rfl
              have hn_ : ∀ f, a_.eval (.func f) = .func (.func f) #[] #[] := fun _ => rfl
              clear hy_ hg_
              generalize a_.eval = ρ_ at *
              go_simp
              exact ⟨Below.refl _ _, rfl⟩
            refine allFrom_cons ?_ ?_
            · intro a_ w_ hk_
              have h81 : a_.eval (.tmp 81) = (.bool true) := hk_.got 7 81 _ (by kernel_rfl) rfl rfl
              have h84 : a_.eval (.tmp 84) = (.bool true) := hk_.got 10 84 _ (by kernel_rfl) rfl rfl
              have hx_ := hk_.ext
              clear hk_
              refine flow_plain rfl ?_
              exact gives_pick rfl h81 ⟨Below.refl _ _, h84⟩
            refine allFrom_cons ?_ ?_
            · intro a_ w_ hk_
              have h85 : a_.eval (.tmp 85) = (.bool true) := hk_.got 11 85 _ (by kernel_rfl) rfl rfl
              have hx_ := hk_.ext
              clear hk_
              refine flow_plain rfl ?_
              exact gives_move rfl ⟨Below.refl _ _, h85⟩
            refine allFrom_cons ?_ ?_
            · intro a_ w_ hk_
              have h18 : a_.eval (.tmp 18) = .int .i64 30 := hk_.old 18 (by kernel_rfl)
              have hg_ : a_.eval (.tmp 86) = .bool true := hk_.got 12 86 _ (by kernel_rfl) rfl rfl
              have hy_ := hk_.want 12 _ 86 true rfl rfl hg_
              have hx_ := hk_.ext
              clear hk_
              refine flow_want rfl hy_ ?_
              exact gives_move rfl ⟨Below.refl _ _, h18⟩
            refine allFrom_cons ?_ ?_
            · intro a_ w_ hk_
              have h15 : a_.eval (.tmp 15) = .int .i64 30 := hk_.old 15 (by kernel_rfl)
              have hg_ : a_.eval (.tmp 86) = .bool true := hk_.got 12 86 _ (by kernel_rfl) rfl rfl
              have hy_ := hk_.want 12 _ 86 true rfl rfl hg_
              have hx_ := hk_.ext
              clear hk_
              refine flow_want rfl hy_ ?_
              exact gives_move rfl ⟨Below.refl _ _, h15⟩
            refine allFrom_cons ?_ ?_
            · intro a_ w_ hk_
              have h87 : a_.eval (.tmp 87) = (.int .i64 30) := hk_.got 13 87 _ (by kernel_rfl) rfl rfl
              have h88 : a_.eval (.tmp 88) = (.int .i64 30) := hk_.got 14 88 _ (by kernel_rfl) rfl rfl
              have hg_ : a_.eval (.tmp 86) = .bool true := hk_.got 12 86 _ (by kernel_rfl) rfl rfl
              have hy_ := hk_.want 12 _ 86 true rfl rfl hg_
              have hx_ := hk_.ext
              clear hk_
              refine flow_want rfl hy_ ?_
              unfold gives
              have hc_ : ∀ v, a_.eval (.const v) = v := fun _ => rfl
              have hn_ : ∀ f, a_.eval (.func f) = .func (.func f) #[] #[] := fun _ => rfl
              clear hy_ hg_
              generalize a_.eval = ρ_ at *
              go_simp
              exact ⟨Below.refl _ _, rfl⟩
            refine allFrom_cons ?_ ?_
            · intro a_ w_ hk_
              have h86 : a_.eval (.tmp 86) = (.bool true) := hk_.got 12 86 _ (by kernel_rfl) rfl rfl
              have h89 : a_.eval (.tmp 89) = (.bool true) := hk_.got 15 89 _ (by kernel_rfl) rfl rfl
              have hx_ := hk_.ext
              clear hk_
              refine flow_plain rfl ?_
              exact gives_pick rfl h86 ⟨Below.refl _ _, h89⟩
            refine allFrom_cons ?_ ?_
            · intro a_ w_ hk_
              have h90 : a_.eval (.tmp 90) = (.bool true) := hk_.got 16 90 _ (by kernel_rfl) rfl rfl
              have hx_ := hk_.ext
              clear hk_
              refine flow_plain rfl ?_
              exact gives_move rfl ⟨Below.refl _ _, h90⟩
            refine allFrom_cons ?_ ?_
            · intro a_ w_ hk_
              have h11 : a_.eval (.tmp 11) = .pointer (some ⟨gl, 0, none⟩) := hk_.old 11 (by kernel_rfl)
              have hg_ : a_.eval (.tmp 91) = .bool true := hk_.got 17 91 _ (by kernel_rfl) rfl rfl
              have hy_ := hk_.want 17 _ 91 true rfl rfl hg_
              have hx_ := hk_.ext
              clear hk_
              refine flow_want rfl hy_ ?_
              exact gives_move rfl ⟨Below.refl _ _, h11⟩
            refine allFrom_cons ?_ ?_
            · intro a_ w_ hk_
              have h92 : a_.eval (.tmp 92) = (.pointer (some ⟨gl, 0, none⟩)) := hk_.got 18 92 _ (by kernel_rfl) rfl rfl
              have hg_ : a_.eval (.tmp 91) = .bool true := hk_.got 17 91 _ (by kernel_rfl) rfl rfl
              have hy_ := hk_.want 17 _ 91 true rfl rfl hg_
              have hx_ := hk_.ext
              clear hk_
              refine flow_want rfl hy_ ?_
              unfold gives
              have hc_ : ∀ v, a_.eval (.const v) = v := fun _ => rfl
              have hn_ : ∀ f, a_.eval (.func f) = .func (.func f) #[] #[] := fun _ => rfl
              clear hy_ hg_
              generalize a_.eval = ρ_ at *
              go_simp
              exact (aErr w_ (HF9.out.log.below hx_ HF9.out.below.size)).mono fun e w' ⟨h1, h2⟩ => ⟨_, h1, h2 ▸ Below.refl _ _, by rw [HF9.out.e]; rfl⟩
            refine allFrom_cons ?_ ?_
            · intro a_ w_ hk_
              have h15 : a_.eval (.tmp 15) = .int .i64 30 := hk_.old 15 (by kernel_rfl)
              have hg_ : a_.eval (.tmp 91) = .bool true := hk_.got 17 91 _ (by kernel_rfl) rfl rfl
              have hy_ := hk_.want 17 _ 91 true rfl rfl hg_
              have hx_ := hk_.ext
              clear hk_
              refine flow_want rfl hy_ ?_
              exact gives_move rfl ⟨Below.refl _ _, h15⟩
            refine allFrom_cons ?_ ?_
            · intro a_ w_ hk_
              have h93 : a_.eval (.tmp 93) = (.int .i64 30) := hk_.got 19 93 _ (by kernel_rfl) rfl rfl
              have h94 : a_.eval (.tmp 94) = (.int .i64 30) := hk_.got 20 94 _ (by kernel_rfl) rfl rfl
              have hg_ : a_.eval (.tmp 91) = .bool true := hk_.got 17 91 _ (by kernel_rfl) rfl rfl
              have hy_ := hk_.want 17 _ 91 true rfl rfl hg_
              have hx_ := hk_.ext
              clear hk_
              refine flow_want rfl hy_ ?_
              unfold gives
              have hc_ : ∀ v, a_.eval (.const v) = v := fun _ => rfl
              have hn_ : ∀ f, a_.eval (.func f) = .func (.func f) #[] #[] := fun _ => rfl
              clear hy_ hg_
              generalize a_.eval = ρ_ at *
              go_simp
              exact ⟨Below.refl _ _, rfl⟩
            refine allFrom_cons ?_ ?_
            · intro a_ w_ hk_
              have h91 : a_.eval (.tmp 91) = (.bool true) := hk_.got 17 91 _ (by kernel_rfl) rfl rfl
              have h95 : a_.eval (.tmp 95) = (.bool true) := hk_.got 21 95 _ (by kernel_rfl) rfl rfl
              have hx_ := hk_.ext
              clear hk_
              refine flow_plain rfl ?_
              exact gives_pick rfl h91 ⟨Below.refl _ _, h95⟩
            refine allFrom_cons ?_ ?_
            · intro a_ w_ hk_
              have h96 : a_.eval (.tmp 96) = (.bool true) := hk_.got 22 96 _ (by kernel_rfl) rfl rfl
              have hx_ := hk_.ext
              clear hk_
              refine flow_plain rfl ?_
              exact gives_move rfl ⟨Below.refl _ _, h96⟩
            refine allFrom_cons ?_ ?_
            · intro a_ w_ hk_
              have h11 : a_.eval (.tmp 11) = .pointer (some ⟨gl, 0, none⟩) := hk_.old 11 (by kernel_rfl)
              have hg_ : a_.eval (.tmp 97) = .bool true := hk_.got 23 97 _ (by kernel_rfl) rfl rfl
              have hy_ := hk_.want 23 _ 97 true rfl rfl hg_
              have hx_ := hk_.ext
              clear hk_
              refine flow_want rfl hy_ ?_
              exact gives_move rfl ⟨Below.refl _ _, h11⟩
            refine allFrom_cons ?_ ?_
            · intro a_ w_ hk_
              have h98 : a_.eval (.tmp 98) = (.pointer (some ⟨gl, 0, none⟩)) := hk_.got 24 98 _ (by kernel_rfl) rfl rfl
              have hg_ : a_.eval (.tmp 97) = .bool true := hk_.got 23 97 _ (by kernel_rfl) rfl rfl
              have hy_ := hk_.want 23 _ 97 true rfl rfl hg_
              have hx_ := hk_.ext
              clear hk_
              refine flow_want rfl hy_ ?_
              unfold gives
              have hc_ : ∀ v, a_.eval (.const v) = v := fun _ => rfl
              have hn_ : ∀ f, a_.eval (.func f) = .func (.func f) #[] #[] := fun _ => rfl
              clear hy_ hg_
              generalize a_.eval = ρ_ at *
              go_simp
              exact (records_V w_ (HF9.out.log.below hx_ HF9.out.below.size) (by rw [HF9.out.size]; decide)).mono fun e w' ⟨v, h1, h2, h3⟩ => ⟨v, h1, h3, h2⟩
            refine allFrom_cons ?_ ?_
            · intro a_ w_ hk_
              have h99 : (FP.rows L4.rows).p (a_.eval (.tmp 99)) w_ := hk_.got 25 99 _ (by kernel_rfl) rfl rfl
              have hg_ : a_.eval (.tmp 97) = .bool true := hk_.got 23 97 _ (by kernel_rfl) rfl rfl
              have hy_ := hk_.want 23 _ 97 true rfl rfl hg_
              have hx_ := hk_.ext
              clear hk_
              refine flow_want rfl hy_ ?_
              unfold gives
              have hc_ : ∀ v, a_.eval (.const v) = v := fun _ => rfl
              have hn_ : ∀ f, a_.eval (.func f) = .func (.func f) #[] #[] := fun _ => rfl
              clear hy_ hg_
              obtain ⟨A99, c99, h99, r99⟩ := h99
              generalize a_.eval = ρ_ at *
              go_simp
              exact ⟨Below.refl _ _, by rw [HNI.out]; exact congrArg (fun k : Nat => Value.int .i64 (k : Int)) HF9.out.rl⟩
            refine allFrom_cons ?_ ?_
            · intro a_ w_ hk_
              have h13 : a_.eval (.tmp 13) = .int .i64 ni := hk_.old 13 (by kernel_rfl)
              have hg_ : a_.eval (.tmp 97) = .bool true := hk_.got 23 97 _ (by kernel_rfl) rfl rfl
              have hy_ := hk_.want 23 _ 97 true rfl rfl hg_
              have hx_ := hk_.ext
              clear hk_
              refine flow_want rfl hy_ ?_
              exact gives_move rfl ⟨Below.refl _ _, h13⟩
            refine allFrom_cons ?_ ?_
            · intro a_ w_ hk_
              have h100 : a_.eval (.tmp 100) = (.int .i64 ni) := hk_.got 26 100 _ (by kernel_rfl) rfl rfl
              have h101 : a_.eval (.tmp 101) = (.int .i64 ni) := hk_.got 27 101 _ (by kernel_rfl) rfl rfl
              have hg_ : a_.eval (.tmp 97) = .bool true := hk_.got 23 97 _ (by kernel_rfl) rfl rfl
              have hy_ := hk_.want 23 _ 97 true rfl rfl hg_
              have hx_ := hk_.ext
              clear hk_
              refine flow_want rfl hy_ ?_
              unfold gives
              have hc_ : ∀ v, a_.eval (.const v) = v := fun _ => rfl
              have hn_ : ∀ f, a_.eval (.func f) = .func (.func f) #[] #[] := fun _ => rfl
              clear hy_ hg_
              generalize a_.eval = ρ_ at *
              go_simp
              exact ⟨Below.refl _ _, rfl⟩
            refine allFrom_cons ?_ ?_
            · intro a_ w_ hk_
              have h97 : a_.eval (.tmp 97) = (.bool true) := hk_.got 23 97 _ (by kernel_rfl) rfl rfl
              have h102 : a_.eval (.tmp 102) = (.bool true) := hk_.got 28 102 _ (by kernel_rfl) rfl rfl
              have hx_ := hk_.ext
              clear hk_
              refine flow_plain rfl ?_
              exact gives_pick rfl h97 ⟨Below.refl _ _, h102⟩
            refine allFrom_cons ?_ ?_
            · intro a_ w_ hk_
              have h103 : a_.eval (.tmp 103) = (.bool true) := hk_.got 29 103 _ (by kernel_rfl) rfl rfl
              have hx_ := hk_.ext
              clear hk_
              refine flow_plain rfl ?_
              exact gives_move rfl ⟨Below.refl _ _, h103⟩
            refine allFrom_cons ?_ ?_
            · intro a_ w_ hk_
              have h11 : a_.eval (.tmp 11) = .pointer (some ⟨gl, 0, none⟩) := hk_.old 11 (by kernel_rfl)
              have hg_ : a_.eval (.tmp 104) = .bool true := hk_.got 30 104 _ (by kernel_rfl) rfl rfl
              have hy_ := hk_.want 30 _ 104 true rfl rfl hg_
              have hx_ := hk_.ext
              clear hk_
              refine flow_want rfl hy_ ?_
              exact gives_move rfl ⟨Below.refl _ _, h11⟩
            refine allFrom_cons ?_ ?_
            · intro a_ w_ hk_
              have h105 : a_.eval (.tmp 105) = (.pointer (some ⟨gl, 0, none⟩)) := hk_.got 31 105 _ (by kernel_rfl) rfl rfl
              have hg_ : a_.eval (.tmp 104) = .bool true := hk_.got 30 104 _ (by kernel_rfl) rfl rfl
              have hy_ := hk_.want 30 _ 104 true rfl rfl hg_
              have hx_ := hk_.ext
              clear hk_
              refine flow_want rfl hy_ ?_
              unfold gives
              have hc_ : ∀ v, a_.eval (.const v) = v := fun _ => rfl
              have hn_ : ∀ f, a_.eval (.func f) = .func (.func f) #[] #[] := fun _ => rfl
              clear hy_ hg_
              generalize a_.eval = ρ_ at *
              go_simp
              exact (aSure w_ (HF9.out.log.below hx_ HF9.out.below.size)).mono fun e w' ⟨h1, h2⟩ => ⟨_, h1, h2 ▸ Below.refl _ _, by rw [HSI.out]; rfl⟩
            refine allFrom_cons ?_ ?_
            · intro a_ w_ hk_
              have h13 : a_.eval (.tmp 13) = .int .i64 ni := hk_.old 13 (by kernel_rfl)
              have hg_ : a_.eval (.tmp 104) = .bool true := hk_.got 30 104 _ (by kernel_rfl) rfl rfl
              have hy_ := hk_.want 30 _ 104 true rfl rfl hg_
              have hx_ := hk_.ext
              clear hk_
              refine flow_want rfl hy_ ?_
              exact gives_move rfl ⟨Below.refl _ _, h13⟩
            refine allFrom_cons ?_ ?_
            · intro a_ w_ hk_
              have h106 : a_.eval (.tmp 106) = (.int .i64 si) := hk_.got 32 106 _ (by kernel_rfl) rfl rfl
              have h107 : a_.eval (.tmp 107) = (.int .i64 ni) := hk_.got 33 107 _ (by kernel_rfl) rfl rfl
              have hg_ : a_.eval (.tmp 104) = .bool true := hk_.got 30 104 _ (by kernel_rfl) rfl rfl
              have hy_ := hk_.want 30 _ 104 true rfl rfl hg_
              have hx_ := hk_.ext
              clear hk_
              refine flow_want rfl hy_ ?_
              unfold gives
              have hc_ : ∀ v, a_.eval (.const v) = v := fun _ => rfl
              have hn_ : ∀ f, a_.eval (.func f) = .func (.func f) #[] #[] := fun _ => rfl
              clear hy_ hg_
              generalize a_.eval = ρ_ at *
              go_simp
              exact ⟨Below.refl _ _, rfl⟩
            refine allFrom_cons ?_ ?_
            · intro a_ w_ hk_
              have h104 : a_.eval (.tmp 104) = (.bool true) := hk_.got 30 104 _ (by kernel_rfl) rfl rfl
              have h108 : a_.eval (.tmp 108) = (.bool true) := hk_.got 34 108 _ (by kernel_rfl) rfl rfl
              have hx_ := hk_.ext
              clear hk_
              refine flow_plain rfl ?_
              exact gives_pick rfl h104 ⟨Below.refl _ _, h108⟩
            refine allFrom_cons ?_ ?_
            · intro a_ w_ hk_
              have h109 : a_.eval (.tmp 109) = (.bool true) := hk_.got 35 109 _ (by kernel_rfl) rfl rfl
              have hx_ := hk_.ext
              clear hk_
              refine flow_plain rfl ?_
              exact gives_move rfl ⟨Below.refl _ _, h109⟩
            refine allFrom_cons ?_ ?_
            · intro a_ w_ hk_
              have h11 : a_.eval (.tmp 11) = .pointer (some ⟨gl, 0, none⟩) := hk_.old 11 (by kernel_rfl)
              have hg_ : a_.eval (.tmp 110) = .bool true := hk_.got 36 110 _ (by kernel_rfl) rfl rfl
              have hy_ := hk_.want 36 _ 110 true rfl rfl hg_
              have hx_ := hk_.ext
              clear hk_
              refine flow_want rfl hy_ ?_
              exact gives_move rfl ⟨Below.refl _ _, h11⟩
            refine allFrom_cons ?_ ?_
            · intro a_ w_ hk_
              have h111 : a_.eval (.tmp 111) = (.pointer (some ⟨gl, 0, none⟩)) := hk_.got 37 111 _ (by kernel_rfl) rfl rfl
              have hg_ : a_.eval (.tmp 110) = .bool true := hk_.got 36 110 _ (by kernel_rfl) rfl rfl
              have hy_ := hk_.want 36 _ 110 true rfl rfl hg_
              have hx_ := hk_.ext
              clear hk_
              refine flow_want rfl hy_ ?_
              unfold gives
              have hc_ : ∀ v, a_.eval (.const v) = v := fun _ => rfl
              have hn_ : ∀ f, a_.eval (.func f) = .func (.func f) #[] #[] := fun _ => rfl
              clear hy_ hg_
              generalize a_.eval = ρ_ at *
              go_simp
              exact (aSure w_ (HF9.out.log.below hx_ HF9.out.below.size)).mono fun e w' ⟨h1, h2⟩ => ⟨_, h1, h2 ▸ Below.refl _ _, by rw [HSI.out]; rfl⟩
            refine allFrom_cons ?_ ?_
            · intro a_ w_ hk_
              have h13 : a_.eval (.tmp 13) = .int .i64 ni := hk_.old 13 (by kernel_rfl)
              have hg_ : a_.eval (.tmp 110) = .bool true := hk_.got 36 110 _ (by kernel_rfl) rfl rfl
              have hy_ := hk_.want 36 _ 110 true rfl rfl hg_
              have hx_ := hk_.ext
              clear hk_
              refine flow_want rfl hy_ ?_
              exact gives_move rfl ⟨Below.refl _ _, h13⟩
            refine allFrom_cons ?_ ?_
            · intro a_ w_ hk_
              have h113 : a_.eval (.tmp 113) = (.int .i64 ni) := hk_.got 39 113 _ (by kernel_rfl) rfl rfl
              have hg_ : a_.eval (.tmp 110) = .bool true := hk_.got 36 110 _ (by kernel_rfl) rfl rfl
              have hy_ := hk_.want 36 _ 110 true rfl rfl hg_
              have hx_ := hk_.ext
              clear hk_
              refine flow_want rfl hy_ ?_
              unfold gives
              have hc_ : ∀ v, a_.eval (.const v) = v := fun _ => rfl
              have hn_ : ∀ f, a_.eval (.func f) = .func (.func f) #[] #[] := fun _ => rfl
              clear hy_ hg_
              generalize a_.eval = ρ_ at *
              go_simp
              exact ⟨Below.refl _ _, congrArg (Value.int _) (i64_wrapS (by omega) (by omega))⟩
            refine allFrom_cons ?_ ?_
            · intro a_ w_ hk_
              have h112 : a_.eval (.tmp 112) = (.int .i64 si) := hk_.got 38 112 _ (by kernel_rfl) rfl rfl
              have h114 : a_.eval (.tmp 114) = (.int .i64 (ni - 1)) := hk_.got 40 114 _ (by kernel_rfl) rfl rfl
              have hg_ : a_.eval (.tmp 110) = .bool true := hk_.got 36 110 _ (by kernel_rfl) rfl rfl
              have hy_ := hk_.want 36 _ 110 true rfl rfl hg_
              have hx_ := hk_.ext
              clear hk_
              refine flow_want rfl hy_ ?_
              unfold gives
              have hc_ : ∀ v, a_.eval (.const v) = v := fun _ => rfl
              have hn_ : ∀ f, a_.eval (.func f) = .func (.func f) #[] #[] := fun _ => rfl
              clear hy_ hg_
              generalize a_.eval = ρ_ at *
              go_simp
              exact ⟨Below.refl _ _, rfl⟩
            refine allFrom_cons ?_ ?_
            · intro a_ w_ hk_
              have h110 : a_.eval (.tmp 110) = (.bool true) := hk_.got 36 110 _ (by kernel_rfl) rfl rfl
              have h115 : a_.eval (.tmp 115) = (.bool true) := hk_.got 41 115 _ (by kernel_rfl) rfl rfl
              have hx_ := hk_.ext
              clear hk_
              refine flow_plain rfl ?_
              exact gives_pick rfl h110 ⟨Below.refl _ _, h115⟩
            refine allFrom_cons ?_ ?_
            · intro a_ w_ hk_
              have h116 : a_.eval (.tmp 116) = (.bool true) := hk_.got 42 116 _ (by kernel_rfl) rfl rfl
              have hx_ := hk_.ext
              clear hk_
              refine flow_plain rfl ?_
              exact gives_assign rfl ⟨Below.refl _ _, h116⟩
            exact allFrom_nil
          intro f_ w_ hx_ hf_
          have h74 : f_ 74 = (.int .i64 30) := hf_ 0 74 _ (by decide) rfl rfl
          have h75 : f_ 75 = (.bool true) := hf_ 1 75 _ (by decide) rfl rfl
          have h76 : f_ 76 = (.bool true) := hf_ 2 76 _ (by decide) rfl rfl
          have h77 : f_ 77 = (.int .i64 30) := hf_ 3 77 _ (by decide) rfl rfl
          have h78 : f_ 78 = (.int .i64 30) := hf_ 4 78 _ (by decide) rfl rfl
          have h79 : f_ 79 = (.bool true) := hf_ 5 79 _ (by decide) rfl rfl
          have h80 : f_ 80 = (.bool true) := hf_ 6 80 _ (by decide) rfl rfl
          have h81 : f_ 81 = (.bool true) := hf_ 7 81 _ (by decide) rfl rfl
          have h82 : f_ 82 = (.int .i64 30) := hf_ 8 82 _ (by decide) rfl rfl
          have h83 : f_ 83 = (.int .i64 30) := hf_ 9 83 _ (by decide) rfl rfl
          have h84 : f_ 84 = (.bool true) := hf_ 10 84 _ (by decide) rfl rfl
          have h85 : f_ 85 = (.bool true) := hf_ 11 85 _ (by decide) rfl rfl
          have h86 : f_ 86 = (.bool true) := hf_ 12 86 _ (by decide) rfl rfl
          have h87 : f_ 87 = (.int .i64 30) := hf_ 13 87 _ (by decide) rfl rfl
          have h88 : f_ 88 = (.int .i64 30) := hf_ 14 88 _ (by decide) rfl rfl
          have h89 : f_ 89 = (.bool true) := hf_ 15 89 _ (by decide) rfl rfl
          have h90 : f_ 90 = (.bool true) := hf_ 16 90 _ (by decide) rfl rfl
          have h91 : f_ 91 = (.bool true) := hf_ 17 91 _ (by decide) rfl rfl
          have h92 : f_ 92 = (.pointer (some ⟨gl, 0, none⟩)) := hf_ 18 92 _ (by decide) rfl rfl
          have h93 : f_ 93 = (.int .i64 30) := hf_ 19 93 _ (by decide) rfl rfl
          have h94 : f_ 94 = (.int .i64 30) := hf_ 20 94 _ (by decide) rfl rfl
          have h95 : f_ 95 = (.bool true) := hf_ 21 95 _ (by decide) rfl rfl
          have h96 : f_ 96 = (.bool true) := hf_ 22 96 _ (by decide) rfl rfl
          have h97 : f_ 97 = (.bool true) := hf_ 23 97 _ (by decide) rfl rfl
          have h98 : f_ 98 = (.pointer (some ⟨gl, 0, none⟩)) := hf_ 24 98 _ (by decide) rfl rfl
          have h99 : (FP.rows L4.rows).p (f_ 99) w_ := hf_ 25 99 _ (by decide) rfl rfl
          have h100 : f_ 100 = (.int .i64 ni) := hf_ 26 100 _ (by decide) rfl rfl
          have h101 : f_ 101 = (.int .i64 ni) := hf_ 27 101 _ (by decide) rfl rfl
          have h102 : f_ 102 = (.bool true) := hf_ 28 102 _ (by decide) rfl rfl
          have h103 : f_ 103 = (.bool true) := hf_ 29 103 _ (by decide) rfl rfl
          have h104 : f_ 104 = (.bool true) := hf_ 30 104 _ (by decide) rfl rfl
          have h105 : f_ 105 = (.pointer (some ⟨gl, 0, none⟩)) := hf_ 31 105 _ (by decide) rfl rfl
          have h106 : f_ 106 = (.int .i64 si) := hf_ 32 106 _ (by decide) rfl rfl
          have h107 : f_ 107 = (.int .i64 ni) := hf_ 33 107 _ (by decide) rfl rfl
          have h108 : f_ 108 = (.bool true) := hf_ 34 108 _ (by decide) rfl rfl
          have h109 : f_ 109 = (.bool true) := hf_ 35 109 _ (by decide) rfl rfl
          have h110 : f_ 110 = (.bool true) := hf_ 36 110 _ (by decide) rfl rfl
          have h111 : f_ 111 = (.pointer (some ⟨gl, 0, none⟩)) := hf_ 37 111 _ (by decide) rfl rfl
          have h112 : f_ 112 = (.int .i64 si) := hf_ 38 112 _ (by decide) rfl rfl
          have h113 : f_ 113 = (.int .i64 ni) := hf_ 39 113 _ (by decide) rfl rfl
          have h114 : f_ 114 = (.int .i64 (ni - 1)) := hf_ 40 114 _ (by decide) rfl rfl
          have h115 : f_ 115 = (.bool true) := hf_ 41 115 _ (by decide) rfl rfl
          have h116 : f_ 116 = (.bool true) := hf_ 42 116 _ (by decide) rfl rfl
          have h6 : f_ 6 = (.bool true) := hf_ 43 6 _ (by decide) rfl rfl
          simp only [mix, h74, h75, h76, h77, h78, h79, h80, h81, h82, h83, h84, h85, h86, h87, h88, h89, h90, h91, h92, h93, h94, h95, h96, h97, h98, h100, h101, h102, h103, h104, h105, h106, h107, h108, h109, h110, h111, h112, h113, h114, h115, h116, h6]
          clear h74 h75 h76 h77 h78 h79 h80 h81 h82 h83 h84 h85 h86 h87 h88 h89 h90 h91 h92 h93 h94 h95 h96 h97 h98 h100 h101 h102 h103 h104 h105 h106 h107 h108 h109 h110 h111 h112 h113 h114 h115 h116 h6
          clear hf_
          go_wp2_with fail
          exact bodyPost_ret (results_tmp rfl _ _ _) rfl ⟨rfl, HB0.out.trans ((HF9.out.below.mono hB0).trans (hx_.mono (Nat.le_trans hB0 HF9.out.below.size)))⟩
      · exfalso
        have h1 := HI.out.len
        have h2 := HI.out.size
        omega
      · rw [o1]
        rw [o2] at hl3
        have hFL : FellI w0 g gl R.2.1 { L with e := 30 } i w3 := ⟨hl3, rfl, HI.out.size, by have := HI.out.turn; show L.turn ≤ 20; omega, by have h1 := HLO.out; have h2 := HI.out.loose; have h3 := HI.out.size; omega, HI.out.below.trans hx3.below, by show L.rows.length = i; rw [HI.out.rows]; exact HI.out.rl, by have h1 := HI.out.has.inv.sure; have h2 := HI.out.rl; show L.sure ≤ i; omega, by have h1 := HI.out.has.inv.sure; have h2 := HI.out.rl; show i ≤ L.sure + 1; omega⟩
        obtain ⟨L3, hL3⟩ : ∃ L3 : LS, L3 = { L with e := 30 } := ⟨_, rfl⟩
        rw [← hL3] at hFL
        clear hL3 o1 o2 o3 o4 o5 o6 hl3 hx3 HOUT HAP HLO
        have HFL := hid hFL
        clear hlt hlti
        have HRM2 := hid (fun (W : World) (hb : Below w0.heap.size w0 W) => (HRM.out.below (HB0.out.trans (hb.mono hB0))).more (HB0.out.trans (hb.mono hB0)).size)
        have hca := Append_any w3 HFL.out.log HFL.out.below.size (by rw [HFL.out.size]; decide) (by rw [HFL.out.size]; have := HFL.out.loose; omega) (b := more) (c := cm) (A := Am) (fun W hxf => HRM2.out W (HFL.out.below.trans hxf.below)) hcm (by omega)
        rw [appS_e (by rw [HFL.out.e]; decide), HFL.out.e] at hca
        have HCA := hid hca
        clear hca
        go_wp2_with fail
        refine HCA.out.mono ?_
        rintro e w7 ⟨rfl, hl7, hx7⟩
        have hF7 := HFL.out.frame hl7 hx7
        have hcs := LSync_any w7 hF7.log hF7.below.size (by rw [hF7.size]; decide) (by have := hF7.loose; omega) (by have := hF7.turn; omega)
        rw [synS_e (by rw [hF7.e]; decide), hF7.e] at hcs
        have HCS := hid hcs
        have HF7 := hid hF7
        clear hcs hF7 hl7 hx7 HCA
        go_wp2_with fail
        refine HCS.out.mono ?_
        rintro e w8 ⟨rfl, hl8, hx8⟩
        have hF8 := HF7.out.frame hl8 hx8
        have hcc := Compact_any w8 hF8.log hF8.below.size (by rw [hF8.size]; decide) (by rw [hF8.size]; have := hF8.loose; omega) (by have := hF8.turn; omega) (A := none) (c := 0) (rs := []) (fun W hx => .inl rfl) (Nat.zero_le _) (fun r hr => by cases hr)
        rw [cmpS_e (by rw [hF8.e]; decide), hF8.e] at hcc
        have HCC := hid hcc
        have HF8 := hid hF8
        clear hcc hF8 hl8 hx8 HCS
        go_wp2_with fail
        refine HCC.out.mono ?_
        rintro e w9 ⟨rfl, hl9, hx9⟩
        have hF9 := HF8.out.frame hl9 hx9
        have HF9 := hid hF9
        obtain ⟨si, hsi2⟩ : ∃ si : Int, si = ((L3.sure : Nat) : Int) := ⟨_, rfl⟩
        obtain ⟨ni, hni⟩ : ∃ ni : Int, ni = ((i : Nat) : Int) := ⟨_, rfl⟩
        have hle1 : si ≤ ni := by have := hF9.s1; omega
        have hle2 : ni - 1 ≤ si := by have := hF9.s2; omega
        have hni1 : 0 ≤ ni ∧ ni ≤ 100 := by omega
        have HSI := hid hsi2
        have HNI := hid hni
        skip
        rw [← hni]
        clear hF9 hl9 hx9 HCC hsi2 hni
        go_wp2_with fail
        refine wp_hold (wp_region_lit ?_)
        refine wp_flowSE [0, 1, 3, 7, 15, 31, 63, 127, 255, 511, 1023, 2047, 4095, 8191, 16383, 32767, 65535, 131071, 262143, 524287, 1048575, 2097151, 4194303, 8388607, 16777215, 33554431, 67108863, 134217727, 268435455, 536870911, 1073741823, 2147483647, 4294967295, 8589934591, 17179869183, 34359738367, 68719476735, 137438953471, 274877906943, 549755813887, 1099511627775, 2199023255551, 4398046511103, 8796093022207] 44 [false, false, false, false, false, false, true, false, false, false, false, false, false, false, false, false, false, false, false, false, false, false, false, false, false, false, false, false, false, false, false, false, false, false, false, false, false, false, false, false, false, false, false, false, false, false, false, false, false, false, false, false, false, false, false, false, false, false, false, false, false, false, false, false, false, false, false, false, false, false, false, false, false, false, true, true, true, true, true, true, true, true, true, true, true, true, true, true, true, true, true, true, true, true, true, true, true, true, true, true, true, true, true, true, true, true, true, true, true, true, true, true, true, true, true, true, true] (by kernel_rfl) (by kernel_rfl) (by kernel_rfl) [FP.eq (.int .i64 30), FP.eq (.bool true), FP.eq (.bool true), FP.eq (.int .i64 30), FP.eq (.int .i64 30), FP.eq (.bool true), FP.eq (.bool true), FP.eq (.bool true), FP.eq (.int .i64 30), FP.eq (.int .i64 30), FP.eq (.bool true), FP.eq (.bool true), FP.eq (.bool true), FP.eq (.int .i64 30), FP.eq (.int .i64 30), FP.eq (.bool true), FP.eq (.bool true), FP.eq (.bool true), FP.eq (.pointer (some ⟨gl, 0, none⟩)), FP.eq (.int .i64 30), FP.eq (.int .i64 30), FP.eq (.bool true), FP.eq (.bool true), FP.eq (.bool true), FP.eq (.pointer (some ⟨gl, 0, none⟩)), FP.rows L3.rows, FP.eq (.int .i64 ni), FP.eq (.int .i64 ni), FP.eq (.bool true), FP.eq (.bool true), FP.eq (.bool true), FP.eq (.pointer (some ⟨gl, 0, none⟩)), FP.eq (.int .i64 si), FP.eq (.int .i64 ni), FP.eq (.bool true), FP.eq (.bool true), FP.eq (.bool true), FP.eq (.pointer (some ⟨gl, 0, none⟩)), FP.eq (.int .i64 si), FP.eq (.int .i64 ni), FP.eq (.int .i64 (ni - 1)), FP.eq (.bool true), FP.eq (.bool true), FP.eq (.bool true)] ?_ ?_
        · refine allFrom_cons ?_ ?_
          · intro a_ w_ hk_
            have h15 : a_.eval (.tmp 15) = .int .i64 30 := hk_.old 15 (by kernel_rfl)
            have hx_ := hk_.ext
            clear hk_
            refine flow_plain rfl ?_
            exact gives_move rfl ⟨Below.refl _ _, h15⟩
          refine allFrom_cons ?_ ?_
          · intro a_ w_ hk_
            have h74 : a_.eval (.tmp 74) = (.int .i64 30) := hk_.got 0 74 _ (by kernel_rfl) rfl rfl
            have hx_ := hk_.ext
            clear hk_
            refine flow_plain rfl ?_
            unfold gives
            have hc_ : ∀ v, a_.eval (.const v) = v := fun _ => rfl
            have hn_ : ∀ f, a_.eval (.func f) = .func (.func f) #[] #[] := fun _ => rfl
            generalize a_.eval = ρ_ at *
            go_simp
            exact ⟨Below.refl _ _, rfl⟩
          refine allFrom_cons ?_ ?_
          · intro a_ w_ hk_
            have h75 : a_.eval (.tmp 75) = (.bool true) := hk_.got 1 75 _ (by kernel_rfl) rfl rfl
            have hx_ := hk_.ext
            clear hk_
            refine flow_plain rfl ?_
            exact gives_move rfl ⟨Below.refl _ _, h75⟩
          refine allFrom_cons ?_ ?_
          · intro a_ w_ hk_
            have h16 : a_.eval (.tmp 16) = .int .i64 30 := hk_.old 16 (by kernel_rfl)
            have hg_ : a_.eval (.tmp 76) = .bool true := hk_.got 2 76 _ (by kernel_rfl) rfl rfl
            have hy_ := hk_.want 2 _ 76 true rfl rfl hg_
            have hx_ := hk_.ext
            clear hk_
            refine flow_want rfl hy_ ?_
            exact gives_move rfl ⟨Below.refl _ _, h16⟩
          refine allFrom_cons ?_ ?_
          · intro a_ w_ hk_
            have h15 : a_.eval (.tmp 15) = .int .i64 30 := hk_.old 15 (by kernel_rfl)
            have hg_ : a_.eval (.tmp 76) = .bool true := hk_.got 2 76 _ (by kernel_rfl) rfl rfl
            have hy_ := hk_.want 2 _ 76 true rfl rfl hg_
            have hx_ := hk_.ext
            clear hk_
            refine flow_want rfl hy_ ?_
            exact gives_move rfl ⟨Below.refl _ _, h15⟩
          refine allFrom_cons ?_ ?_
          · intro a_ w_ hk_
            have h77 : a_.eval (.tmp 77) = (.int .i64 30) := hk_.got 3 77 _ (by kernel_rfl) rfl rfl
            have h78 : a_.eval (.tmp 78) = (.int .i64 30) := hk_.got 4 78 _ (by kernel_rfl) rfl rfl
            have hg_ : a_.eval (.tmp 76) = .bool true := hk_.got 2 76 _ (by kernel_rfl) rfl rfl
            have hy_ := hk_.want 2 _ 76 true rfl rfl hg_
            have hx_ := hk_.ext
            clear hk_
            refine flow_want rfl hy_ ?_
            unfold gives
            have hc_ : ∀ v, a_.eval (.const v) = v := fun _ => rfl
            have hn_ : ∀ f, a_.eval (.func f) = .func (.func f) #[] #[] := fun _ => rfl
            clear hy_ hg_
            generalize a_.eval = ρ_ at *
            go_simp
            exact ⟨Below.refl _ _, rfl⟩
          refine allFrom_cons ?_ ?_
          · intro a_ w_ hk_
            have h76 : a_.eval (.tmp 76) = (.bool true) := hk_.got 2 76 _ (by kernel_rfl) rfl rfl
            have h79 : a_.eval (.tmp 79) = (.bool true) := hk_.got 5 79 _ (by kernel_rfl) rfl rfl
            have hx_ := hk_.ext
            clear hk_
            refine flow_plain rfl ?_
            exact gives_pick rfl h76 ⟨Below.refl _ _, h79⟩
          refine allFrom_cons ?_ ?_
          · intro a_ w_ hk_
            have h80 : a_.eval (.tmp 80) = (.bool true) := hk_.got 6 80 _ (by kernel_rfl) rfl rfl
            have hx_ := hk_.ext
            clear hk_
            refine flow_plain rfl ?_
            exact gives_move rfl ⟨Below.refl _ _, h80⟩
          refine allFrom_cons ?_ ?_
          · intro a_ w_ hk_
            have h17 : a_.eval (.tmp 17) = .int .i64 30 := hk_.old 17 (by kernel_rfl)
            have hg_ : a_.eval (.tmp 81) = .bool true := hk_.got 7 81 _ (by kernel_rfl) rfl rfl
            have hy_ := hk_.want 7 _ 81 true rfl rfl hg_
            have hx_ := hk_.ext
            clear hk_
            refine flow_want rfl hy_ ?_
            exact gives_move rfl ⟨Below.refl _ _, h17⟩
          refine allFrom_cons ?_ ?_
          · intro a_ w_ hk_
            have h15 : a_.eval (.tmp 15) = .int .i64 30 := hk_.old 15 (by kernel_rfl)
            have hg_ : a_.eval (.tmp 81) = .bool true := hk_.got 7 81 _ (by kernel_rfl) rfl rfl
            have hy_ := hk_.want 7 _ 81 true rfl rfl hg_
            have hx_ := hk_.ext
            clear hk_
            refine flow_want rfl hy_ ?_
            exact gives_move rfl ⟨Below.refl _ _, h15⟩
          refine allFrom_cons ?_ ?_
          · intro a_ w_ hk_
            have h82 : a_.eval (.tmp 82) = (.int .i64 30) := hk_.got 8 82 _ (by kernel_rfl) rfl rfl
            have h83 : a_.eval (.tmp 83) = (.int .i64 30) := hk_.got 9 83 _ (by kernel_rfl) rfl rfl
            have hg_ : a_.eval (.tmp 81) = .bool true := hk_.got 7 81 _ (by kernel_rfl) rfl rfl
            have hy_ := hk_.want 7 _ 81 true rfl rfl hg_
            have hx_ := hk_.ext
            clear hk_
            refine flow_want rfl hy_ ?_
            unfold gives
            have hc_ : ∀ v, a_.eval (.const v) = v := fun _ => rfl
            have hn_ : ∀ f, a_.eval (.func f) = .func (.func f) #[] #[] := fun _ => rfl
            clear hy_ hg_
            generalize a_.eval = ρ_ at *
            go_simp
            exact ⟨Below.refl _ _, rfl⟩
          refine allFrom_cons ?_ ?_
          · intro a_ w_ hk_
            have h81 : a_.eval (.tmp 81) = (.bool true) := hk_.got 7 81 _ (by kernel_rfl) rfl rfl
            have h84 : a_.eval (.tmp 84) = (.bool true) := hk_.got 10 84 _ (by kernel_rfl) rfl rfl
            have hx_ := hk_.ext
            clear hk_
            refine flow_plain rfl ?_
            exact gives_pick rfl h81 ⟨Below.refl _ _, h84⟩
          refine allFrom_cons ?_ ?_
          · intro a_ w_ hk_
            have h85 : a_.eval (.tmp 85) = (.bool true) := hk_.got 11 85 _ (by kernel_rfl) rfl rfl
            have hx_ := hk_.ext
            clear hk_
            refine flow_plain rfl ?_
            exact gives_move rfl ⟨Below.refl _ _, h85⟩
          refine allFrom_cons ?_ ?_
          · intro a_ w_ hk_
            have h18 : a_.eval (.tmp 18) = .int .i64 30 := hk_.old 18 (by kernel_rfl)
            have hg_ : a_.eval (.tmp 86) = .bool true := hk_.got 12 86 _ (by kernel_rfl) rfl rfl
            have hy_ := hk_.want 12 _ 86 true rfl rfl hg_
            have hx_ := hk_.ext
            clear hk_
            refine flow_want rfl hy_ ?_
            exact gives_move rfl ⟨Below.refl _ _, h18⟩
          refine allFrom_cons ?_ ?_
          · intro a_ w_ hk_
            have h15 : a_.eval (.tmp 15) = .int .i64 30 := hk_.old 15 (by kernel_rfl)
            have hg_ : a_.eval (.tmp 86) = .bool true := hk_.got 12 86 _ (by kernel_rfl) rfl rfl
            have hy_ := hk_.want 12 _ 86 true rfl rfl hg_
            have hx_ := hk_.ext
            clear hk_
            refine flow_want rfl hy_ ?_
            exact gives_move rfl ⟨Below.refl _ _, h15⟩
          refine allFrom_cons ?_ ?_
          · intro a_ w_ hk_
            have h87 : a_.eval (.tmp 87) = (.int .i64 30) := hk_.got 13 87 _ (by kernel_rfl) rfl rfl
            have h88 : a_.eval (.tmp 88) = (.int .i64 30) := hk_.got 14 88 _ (by kernel_rfl) rfl rfl
            have hg_ : a_.eval (.tmp 86) = .bool true := hk_.got 12 86 _ (by kernel_rfl) rfl rfl
            have hy_ := hk_.want 12 _ 86 true rfl rfl hg_
            have hx_ := hk_.ext
            clear hk_
            refine flow_want rfl hy_ ?_
            unfold gives
            have hc_ : ∀ v, a_.eval (.const v) = v := fun _ => rfl
            have hn_ : ∀ f, a_.eval (.func f) = .func (.func f) #[] #[] := fun _ => rfl
            clear hy_ hg_
            generalize a_.eval = ρ_ at *
            go_simp
            exact ⟨Below.refl _ _, rfl⟩
          refine allFrom_cons ?_ ?_
          · intro a_ w_ hk_
            have h86 : a_.eval (.tmp 86) = (.bool true) := hk_.got 12 86 _ (by kernel_rfl) rfl rfl
            have h89 : a_.eval (.tmp 89) = (.bool true) := hk_.got 15 89 _ (by kernel_rfl) rfl rfl
            have hx_ := hk_.ext
            clear hk_
            refine flow_plain rfl ?_
            exact gives_pick rfl h86 ⟨Below.refl _ _, h89⟩
          refine allFrom_cons ?_ ?_
          · intro a_ w_ hk_
            have h90 : a_.eval (.tmp 90) = (.bool true) := hk_.got 16 90 _ (by kernel_rfl) rfl rfl
            have hx_ := hk_.ext
            clear hk_
            refine flow_plain rfl ?_
            exact gives_move rfl ⟨Below.refl _ _, h90⟩
          refine allFrom_cons ?_ ?_
          · intro a_ w_ hk_
            have h11 : a_.eval (.tmp 11) = .pointer (some ⟨gl, 0, none⟩) := hk_.old 11 (by kernel_rfl)
            have hg_ : a_.eval (.tmp 91) = .bool true := hk_.got 17 91 _ (by kernel_rfl) rfl rfl
            have hy_ := hk_.want 17 _ 91 true rfl rfl hg_
            have hx_ := hk_.ext
            clear hk_
            refine flow_want rfl hy_ ?_
            exact gives_move rfl ⟨Below.refl _ _, h11⟩
          refine allFrom_cons ?_ ?_
          · intro a_ w_ hk_
            have h92 : a_.eval (.tmp 92) = (.pointer (some ⟨gl, 0, none⟩)) := hk_.got 18 92 _ (by kernel_rfl) rfl rfl
            have hg_ : a_.eval (.tmp 91) = .bool true := hk_.got 17 91 _ (by kernel_rfl) rfl rfl
            have hy_ := hk_.want 17 _ 91 true rfl rfl hg_
            have hx_ := hk_.ext
            clear hk_
            refine flow_want rfl hy_ ?_
            unfold gives
            have hc_ : ∀ v, a_.eval (.const v) = v := fun _ => rfl
            have hn_ : ∀ f, a_.eval (.func f) = .func (.func f) #[] #[] := fun _ => rfl
            clear hy_ hg_
            generalize a_.eval = ρ_ at *
            go_simp
            exact (aErr w_ (HF9.out.log.below hx_ HF9.out.below.size)).mono fun e w' ⟨h1, h2⟩ => ⟨_, h1, h2 ▸ Below.refl _ _, by rw [HF9.out.e]; rfl⟩
          refine allFrom_cons ?_ ?_
          · intro a_ w_ hk_
            have h15 : a_.eval (.tmp 15) = .int .i64 30 := hk_.old 15 (by kernel_rfl)
            have hg_ : a_.eval (.tmp 91) = .bool true := hk_.got 17 91 _ (by kernel_rfl) rfl rfl
            have hy_ := hk_.want 17 _ 91 true rfl rfl hg_
            have hx_ := hk_.ext
            clear hk_
            refine flow_want rfl hy_ ?_
            exact gives_move rfl ⟨Below.refl _ _, h15⟩
          refine allFrom_cons ?_ ?_
          · intro a_ w_ hk_
            have h93 : a_.eval (.tmp 93) = (.int .i64 30) := hk_.got 19 93 _ (by kernel_rfl) rfl rfl
            have h94 : a_.eval (.tmp 94) = (.int .i64 30) := hk_.got 20 94 _ (by kernel_rfl) rfl rfl
            have hg_ : a_.eval (.tmp 91) = .bool true := hk_.got 17 91 _ (by kernel_rfl) rfl rfl
            have hy_ := hk_.want 17 _ 91 true rfl rfl hg_
            have hx_ := hk_.ext
            clear hk_
            refine flow_want rfl hy_ ?_
            unfold gives
            have hc_ : ∀ v, a_.eval (.const v) = v := fun _ => rfl
            have hn_ : ∀ f, a_.eval (.func f) = .func (.func f) #[] #[] := fun _ => rfl
            clear hy_ hg_
            generalize a_.eval = ρ_ at *
            go_simp
            exact ⟨Below.refl _ _, rfl⟩
          refine allFrom_cons ?_ ?_
          · intro a_ w_ hk_
            have h91 : a_.eval (.tmp 91) = (.bool true) := hk_.got 17 91 _ (by kernel_rfl) rfl rfl
            have h95 : a_.eval (.tmp 95) = (.bool true) := hk_.got 21 95 _ (by kernel_rfl) rfl rfl
            have hx_ := hk_.ext
            clear hk_
            refine flow_plain rfl ?_
            exact gives_pick rfl h91 ⟨Below.refl _ _, h95⟩
          refine allFrom_cons ?_ ?_
          · intro a_ w_ hk_
            have h96 : a_.eval (.tmp 96) = (.bool true) := hk_.got 22 96 _ (by kernel_rfl) rfl rfl
            have hx_ := hk_.ext
            clear hk_
            refine flow_plain rfl ?_
            exact gives_move rfl ⟨Below.refl _ _, h96⟩
          refine allFrom_cons ?_ ?_
          · intro a_ w_ hk_
            have h11 : a_.eval (.tmp 11) = .pointer (some ⟨gl, 0, none⟩) := hk_.old 11 (by kernel_rfl)
            have hg_ : a_.eval (.tmp 97) = .bool true := hk_.got 23 97 _ (by kernel_rfl) rfl rfl
            have hy_ := hk_.want 23 _ 97 true rfl rfl hg_
            have hx_ := hk_.ext
            clear hk_
            refine flow_want rfl hy_ ?_
            exact gives_move rfl ⟨Below.refl _ _, h11⟩
          refine allFrom_cons ?_ ?_
          · intro a_ w_ hk_
            have h98 : a_.eval (.tmp 98) = (.pointer (some ⟨gl, 0, none⟩)) := hk_.got 24 98 _ (by kernel_rfl) rfl rfl
            have hg_ : a_.eval (.tmp 97) = .bool true := hk_.got 23 97 _ (by kernel_rfl) rfl rfl
            have hy_ := hk_.want 23 _ 97 true rfl rfl hg_
            have hx_ := hk_.ext
            clear hk_
            refine flow_want rfl hy_ ?_
            unfold gives
            have hc_ : ∀ v, a_.eval (.const v) = v := fun _ => rfl
            have hn_ : ∀ f, a_.eval (.func f) = .func (.func f) #[] #[] := fun _ => rfl
            clear hy_ hg_
            generalize a_.eval = ρ_ at *
            go_simp
            exact (records_V w_ (HF9.out.log.below hx_ HF9.out.below.size) (by rw [HF9.out.size]; decide)).mono fun e w' ⟨v, h1, h2, h3⟩ => ⟨v, h1, h3, h2⟩
          refine allFrom_cons ?_ ?_
          · intro a_ w_ hk_
            have h99 : (FP.rows L3.rows).p (a_.eval (.tmp 99)) w_ := hk_.got 25 99 _ (by kernel_rfl) rfl rfl
            have hg_ : a_.eval (.tmp 97) = .bool true := hk_.got 23 97 _ (by kernel_rfl) rfl rfl
            have hy_ := hk_.want 23 _ 97 true rfl rfl hg_
            have hx_ := hk_.ext
            clear hk_
            refine flow_want rfl hy_ ?_
            unfold gives
            have hc_ : ∀ v, a_.eval (.const v) = v := fun _ => rfl
            have hn_ : ∀ f, a_.eval (.func f) = .func (.func f) #[] #[] := fun _ => rfl
            clear hy_ hg_
            obtain ⟨A99, c99, h99, r99⟩ := h99
            generalize a_.eval = ρ_ at *
            go_simp
            exact ⟨Below.refl _ _, by rw [HNI.out]; exact congrArg (fun k : Nat => Value.int .i64 (k : Int)) HF9.out.rl⟩
          refine allFrom_cons ?_ ?_
          · intro a_ w_ hk_
            have h13 : a_.eval (.tmp 13) = .int .i64 ni := hk_.old 13 (by kernel_rfl)
            have hg_ : a_.eval (.tmp 97) = .bool true := hk_.got 23 97 _ (by kernel_rfl) rfl rfl
            have hy_ := hk_.want 23 _ 97 true rfl rfl hg_
            have hx_ := hk_.ext
            clear hk_
            refine flow_want rfl hy_ ?_
            exact gives_move rfl ⟨Below.refl _ _, h13⟩
          refine allFrom_cons ?_ ?_
          · intro a_ w_ hk_
            have h100 : a_.eval (.tmp 100) = (.int .i64 ni) := hk_.got 26 100 _ (by kernel_rfl) rfl rfl
            have h101 : a_.eval (.tmp 101) = (.int .i64 ni) := hk_.got 27 101 _ (by kernel_rfl) rfl rfl
            have hg_ : a_.eval (.tmp 97) = .bool true := hk_.got 23 97 _ (by kernel_rfl) rfl rfl
            have hy_ := hk_.want 23 _ 97 true rfl rfl hg_
            have hx_ := hk_.ext
            clear hk_
            refine flow_want rfl hy_ ?_
            unfold gives
            have hc_ : ∀ v, a_.eval (.const v) = v := fun _ => rfl
            have hn_ : ∀ f, a_.eval (.func f) = .func (.func f) #[] #[] := fun _ => rfl
            clear hy_ hg_
            generalize a_.eval = ρ_ at *
            go_simp
            exact ⟨Below.refl _ _, rfl⟩
          refine allFrom_cons ?_ ?_
          · intro a_ w_ hk_
            have h97 : a_.eval (.tmp 97) = (.bool true) := hk_.got 23 97 _ (by kernel_rfl) rfl rfl
            have h102 : a_.eval (.tmp 102) = (.bool true) := hk_.got 28 102 _ (by kernel_rfl) rfl rfl
            have hx_ := hk_.ext
            clear hk_
            refine flow_plain rfl ?_
            exact gives_pick rfl h97 ⟨Below.refl _ _, h102⟩
          refine allFrom_cons ?_ ?_
          · intro a_ w_ hk_
            have h103 : a_.eval (.tmp 103) = (.bool true) := hk_.got 29 103 _ (by kernel_rfl) rfl rfl
            have hx_ := hk_.ext
            clear hk_
            refine flow_plain rfl ?_
            exact gives_move rfl ⟨Below.refl _ _, h103⟩
          refine allFrom_cons ?_ ?_
          · intro a_ w_ hk_
            have h11 : a_.eval (.tmp 11) = .pointer (some ⟨gl, 0, none⟩) := hk_.old 11 (by kernel_rfl)
            have hg_ : a_.eval (.tmp 104) = .bool true := hk_.got 30 104 _ (by kernel_rfl) rfl rfl
            have hy_ := hk_.want 30 _ 104 true rfl rfl hg_
            have hx_ := hk_.ext
            clear hk_
            refine flow_want rfl hy_ ?_
            exact gives_move rfl ⟨Below.refl _ _, h11⟩
          refine allFrom_cons ?_ ?_
          · intro a_ w_ hk_
            have h105 : a_.eval (.tmp 105) = (.pointer (some ⟨gl, 0, none⟩)) := hk_.got 31 105 _ (by kernel_rfl) rfl rfl
            have hg_ : a_.eval (.tmp 104) = .bool true := hk_.got 30 104 _ (by kernel_rfl) rfl rfl
            have hy_ := hk_.want 30 _ 104 true rfl rfl hg_
            have hx_ := hk_.ext
            clear hk_
            refine flow_want rfl hy_ ?_
            unfold gives
            have hc_ : ∀ v, a_.eval (.const v) = v := fun _ => rfl
            have hn_ : ∀ f, a_.eval (.func f) = .func (.func f) #[] #[] := fun _ => rfl
            clear hy_ hg_
            generalize a_.eval = ρ_ at *
            go_simp
            exact (aSure w_ (HF9.out.log.below hx_ HF9.out.below.size)).mono fun e w' ⟨h1, h2⟩ => ⟨_, h1, h2 ▸ Below.refl _ _, by rw [HSI.out]; rfl⟩
          refine allFrom_cons ?_ ?_
          · intro a_ w_ hk_
            have h13 : a_.eval (.tmp 13) = .int .i64 ni := hk_.old 13 (by kernel_rfl)
            have hg_ : a_.eval (.tmp 104) = .bool true := hk_.got 30 104 _ (by kernel_rfl) rfl rfl
            have hy_ := hk_.want 30 _ 104 true rfl rfl hg_
            have hx_ := hk_.ext
            clear hk_
            refine flow_want rfl hy_ ?_
            exact gives_move rfl ⟨Below.refl _ _, h13⟩
          refine allFrom_cons ?_ ?_
          · intro a_ w_ hk_
            have h106 : a_.eval (.tmp 106) = (.int .i64 si) := hk_.got 32 106 _ (by kernel_rfl) rfl rfl
            have h107 : a_.eval (.tmp 107) = (.int .i64 ni) := hk_.got 33 107 _ (by kernel_rfl) rfl rfl
            have hg_ : a_.eval (.tmp 104) = .bool true := hk_.got 30 104 _ (by kernel_rfl) rfl rfl
            have hy_ := hk_.want 30 _ 104 true rfl rfl hg_
            have hx_ := hk_.ext
            clear hk_
            refine flow_want rfl hy_ ?_
            unfold gives
            have hc_ : ∀ v, a_.eval (.const v) = v := fun _ => rfl
            have hn_ : ∀ f, a_.eval (.func f) = .func (.func f) #[] #[] := fun _ => rfl
            clear hy_ hg_
            generalize a_.eval = ρ_ at *
            go_simp
            exact ⟨Below.refl _ _, rfl⟩
          refine allFrom_cons ?_ ?_
          · intro a_ w_ hk_
            have h104 : a_.eval (.tmp 104) = (.bool true) := hk_.got 30 104 _ (by kernel_rfl) rfl rfl
            have h108 : a_.eval (.tmp 108) = (.bool true) := hk_.got 34 108 _ (by kernel_rfl) rfl rfl
            have hx_ := hk_.ext
            clear hk_
            refine flow_plain rfl ?_
            exact gives_pick rfl h104 ⟨Below.refl _ _, h108⟩
          refine allFrom_cons ?_ ?_
          · intro a_ w_ hk_
            have h109 : a_.eval (.tmp 109) = (.bool true) := hk_.got 35 109 _ (by kernel_rfl) rfl rfl
            have hx_ := hk_.ext
            clear hk_
            refine flow_plain rfl ?_
            exact gives_move rfl ⟨Below.refl _ _, h109⟩
          refine allFrom_cons ?_ ?_
          · intro a_ w_ hk_
            have h11 : a_.eval (.tmp 11) = .pointer (some ⟨gl, 0, none⟩) := hk_.old 11 (by kernel_rfl)
            have hg_ : a_.eval (.tmp 110) = .bool true := hk_.got 36 110 _ (by kernel_rfl) rfl rfl
            have hy_ := hk_.want 36 _ 110 true rfl rfl hg_
            have hx_ := hk_.ext
            clear hk_
            refine flow_want rfl hy_ ?_
            exact gives_move rfl ⟨Below.refl _ _, h11⟩
          refine allFrom_cons ?_ ?_
          · intro a_ w_ hk_
            have h111 : a_.eval (.tmp 111) = (.pointer (some ⟨gl, 0, none⟩)) := hk_.got 37 111 _ (by kernel_rfl) rfl rfl
            have hg_ : a_.eval (.tmp 110) = .bool true := hk_.got 36 110 _ (by kernel_rfl) rfl rfl
            have hy_ := hk_.want 36 _ 110 true rfl rfl hg_
            have hx_ := hk_.ext
            clear hk_
            refine flow_want rfl hy_ ?_
            unfold gives
            have hc_ : ∀ v, a_.eval (.const v) = v := fun _ => rfl
            have hn_ : ∀ f, a_.eval (.func f) = .func (.func f) #[] #[] := fun _ => rfl
            clear hy_ hg_
            generalize a_.eval = ρ_ at *
            go_simp
            exact (aSure w_ (HF9.out.log.below hx_ HF9.out.below.size)).mono fun e w' ⟨h1, h2⟩ => ⟨_, h1, h2 ▸ Below.refl _ _, by rw [HSI.out]; rfl⟩
          refine allFrom_cons ?_ ?_
          · intro a_ w_ hk_
            have h13 : a_.eval (.tmp 13) = .int .i64 ni := hk_.old 13 (by kernel_rfl)
            have hg_ : a_.eval (.tmp 110) = .bool true := hk_.got 36 110 _ (by kernel_rfl) rfl rfl
            have hy_ := hk_.want 36 _ 110 true rfl rfl hg_
            have hx_ := hk_.ext
            clear hk_
            refine flow_want rfl hy_ ?_
            exact gives_move rfl ⟨Below.refl _ _, h13⟩
          refine allFrom_cons ?_ ?_
          · intro a_ w_ hk_
            have h113 : a_.eval (.tmp 113) = (.int .i64 ni) := hk_.got 39 113 _ (by kernel_rfl) rfl rfl
            have hg_ : a_.eval (.tmp 110) = .bool true := hk_.got 36 110 _ (by kernel_rfl) rfl rfl
            have hy_ := hk_.want 36 _ 110 true rfl rfl hg_
            have hx_ := hk_.ext
            clear hk_
            refine flow_want rfl hy_ ?_
            unfold gives
            have hc_ : ∀ v, a_.eval (.const v) = v := fun _ => rfl
            have hn_ : ∀ f, a_.eval (.func f) = .func (.func f) #[] #[] := fun _ => rfl
            clear hy_ hg_
            generalize a_.eval = ρ_ at *
            go_simp
            exact ⟨Below.refl _ _, congrArg (Value.int _) (i64_wrapS (by omega) (by omega))⟩
          refine allFrom_cons ?_ ?_
          · intro a_ w_ hk_
            have h112 : a_.eval (.tmp 112) = (.int .i64 si) := hk_.got 38 112 _ (by kernel_rfl) rfl rfl
            have h114 : a_.eval (.tmp 114) = (.int .i64 (ni - 1)) := hk_.got 40 114 _ (by kernel_rfl) rfl rfl
            have hg_ : a_.eval (.tmp 110) = .bool true := hk_.got 36 110 _ (by kernel_rfl) rfl rfl
            have hy_ := hk_.want 36 _ 110 true rfl rfl hg_
            have hx_ := hk_.ext
            clear hk_
            refine flow_want rfl hy_ ?_
            unfold gives
            have hc_ : ∀ v, a_.eval (.const v) = v := fun _ => rfl
            have hn_ : ∀ f, a_.eval (.func f) = .func (.func f) #[] #[] := fun _ => rfl
            clear hy_ hg_
            generalize a_.eval = ρ_ at *
            go_simp
            exact ⟨Below.refl _ _, rfl⟩
          refine allFrom_cons ?_ ?_
          · intro a_ w_ hk_
            have h110 : a_.eval (.tmp 110) = (.bool true) := hk_.got 36 110 _ (by kernel_rfl) rfl rfl
            have h115 : a_.eval (.tmp 115) = (.bool true) := hk_.got 41 115 _ (by kernel_rfl) rfl rfl
            have hx_ := hk_.ext
            clear hk_
            refine flow_plain rfl ?_
            exact gives_pick rfl h110 ⟨Below.refl _ _, h115⟩
          refine allFrom_cons ?_ ?_
          · intro a_ w_ hk_
            have h116 : a_.eval (.tmp 116) = (.bool true) := hk_.got 42 116 _ (by kernel_rfl) rfl rfl
            have hx_ := hk_.ext
            clear hk_
            refine flow_plain rfl ?_
            exact gives_assign rfl ⟨Below.refl _ _, h116⟩
          exact allFrom_nil
        intro f_ w_ hx_ hf_
        have h74 : f_ 74 = (.int .i64 30) := hf_ 0 74 _ (by decide) rfl rfl
        have h75 : f_ 75 = (.bool true) := hf_ 1 75 _ (by decide) rfl rfl
        have h76 : f_ 76 = (.bool true) := hf_ 2 76 _ (by decide) rfl rfl
        have h77 : f_ 77 = (.int .i64 30) := hf_ 3 77 _ (by decide) rfl rfl
        have h78 : f_ 78 = (.int .i64 30) := hf_ 4 78 _ (by decide) rfl rfl
        have h79 : f_ 79 = (.bool true) := hf_ 5 79 _ (by decide) rfl rfl
        have h80 : f_ 80 = (.bool true) := hf_ 6 80 _ (by decide) rfl rfl
        have h81 : f_ 81 = (.bool true) := hf_ 7 81 _ (by decide) rfl rfl
        have h82 : f_ 82 = (.int .i64 30) := hf_ 8 82 _ (by decide) rfl rfl
        have h83 : f_ 83 = (.int .i64 30) := hf_ 9 83 _ (by decide) rfl rfl
        have h84 : f_ 84 = (.bool true) := hf_ 10 84 _ (by decide) rfl rfl
        have h85 : f_ 85 = (.bool true) := hf_ 11 85 _ (by decide) rfl rfl
        have h86 : f_ 86 = (.bool true) := hf_ 12 86 _ (by decide) rfl rfl
        have h87 : f_ 87 = (.int .i64 30) := hf_ 13 87 _ (by decide) rfl rfl
        have h88 : f_ 88 = (.int .i64 30) := hf_ 14 88 _ (by decide) rfl rfl
        have h89 : f_ 89 = (.bool true) := hf_ 15 89 _ (by decide) rfl rfl
        have h90 : f_ 90 = (.bool true) := hf_ 16 90 _ (by decide) rfl rfl
        have h91 : f_ 91 = (.bool true) := hf_ 17 91 _ (by decide) rfl rfl
        have h92 : f_ 92 = (.pointer (some ⟨gl, 0, none⟩)) := hf_ 18 92 _ (by decide) rfl rfl
        have h93 : f_ 93 = (.int .i64 30) := hf_ 19 93 _ (by decide) rfl rfl
        have h94 : f_ 94 = (.int .i64 30) := hf_ 20 94 _ (by decide) rfl rfl
        have h95 : f_ 95 = (.bool true) := hf_ 21 95 _ (by decide) rfl rfl
        have h96 : f_ 96 = (.bool true) := hf_ 22 96 _ (by decide) rfl rfl
        have h97 : f_ 97 = (.bool true) := hf_ 23 97 _ (by decide) rfl rfl
        have h98 : f_ 98 = (.pointer (some ⟨gl, 0, none⟩)) := hf_ 24 98 _ (by decide) rfl rfl
        have h99 : (FP.rows L3.rows).p (f_ 99) w_ := hf_ 25 99 _ (by decide) rfl rfl
        have h100 : f_ 100 = (.int .i64 ni) := hf_ 26 100 _ (by decide) rfl rfl
        have h101 : f_ 101 = (.int .i64 ni) := hf_ 27 101 _ (by decide) rfl rfl
        have h102 : f_ 102 = (.bool true) := hf_ 28 102 _ (by decide) rfl rfl
        have h103 : f_ 103 = (.bool true) := hf_ 29 103 _ (by decide) rfl rfl
        have h104 : f_ 104 = (.bool true) := hf_ 30 104 _ (by decide) rfl rfl
        have h105 : f_ 105 = (.pointer (some ⟨gl, 0, none⟩)) := hf_ 31 105 _ (by decide) rfl rfl
        have h106 : f_ 106 = (.int .i64 si) := hf_ 32 106 _ (by decide) rfl rfl
        have h107 : f_ 107 = (.int .i64 ni) := hf_ 33 107 _ (by decide) rfl rfl
        have h108 : f_ 108 = (.bool true) := hf_ 34 108 _ (by decide) rfl rfl
        have h109 : f_ 109 = (.bool true) := hf_ 35 109 _ (by decide) rfl rfl
        have h110 : f_ 110 = (.bool true) := hf_ 36 110 _ (by decide) rfl rfl
        have h111 : f_ 111 = (.pointer (some ⟨gl, 0, none⟩)) := hf_ 37 111 _ (by decide) rfl rfl
        have h112 : f_ 112 = (.int .i64 si) := hf_ 38 112 _ (by decide) rfl rfl
        have h113 : f_ 113 = (.int .i64 ni) := hf_ 39 113 _ (by decide) rfl rfl
        have h114 : f_ 114 = (.int .i64 (ni - 1)) := hf_ 40 114 _ (by decide) rfl rfl
        have h115 : f_ 115 = (.bool true) := hf_ 41 115 _ (by decide) rfl rfl
        have h116 : f_ 116 = (.bool true) := hf_ 42 116 _ (by decide) rfl rfl
        have h6 : f_ 6 = (.bool true) := hf_ 43 6 _ (by decide) rfl rfl
        simp only [mix, h74, h75, h76, h77, h78, h79, h80, h81, h82, h83, h84, h85, h86, h87, h88, h89, h90, h91, h92, h93, h94, h95, h96, h97, h98, h100, h101, h102, h103, h104, h105, h106, h107, h108, h109, h110, h111, h112, h113, h114, h115, h116, h6]
        clear h74 h75 h76 h77 h78 h79 h80 h81 h82 h83 h84 h85 h86 h87 h88 h89 h90 h91 h92 h93 h94 h95 h96 h97 h98 h100 h101 h102 h103 h104 h105 h106 h107 h108 h109 h110 h111 h112 h113 h114 h115 h116 h6
        clear hf_
        go_wp2_with fail
        exact bodyPost_ret (results_tmp rfl _ _ _) rfl ⟨rfl, HB0.out.trans ((HF9.out.below.mono hB0).trans (hx_.mono (Nat.le_trans hB0 HF9.out.below.size)))⟩
    · have hil : ¬ (i : Int) < (rows.length : Int) := by omega
      have hii : i = rows.length := by omega
      subst hii
      have HI := hid hI
      have hsu : L.sure = rows.length := by rw [hI.has.inv.sure]; exact hI.rl
      have HSU := hid hsu
      clear hI hlt hsu
      go_wp2_with fail
      refine wp_hold (wp_region_lit ?_)
      refine wp_flowSE [0, 1, 3, 7, 15, 31, 63, 127, 255, 511, 1023, 2047, 4095, 8191, 16383, 32767] 16 [false, false, false, false, false, false, true, false, false, false, false, false, false, false, false, false, false, false, false, false, false, false, false, false, false, false, false, false, false, false, false, false, false, false, false, false, false, false, false, false, false, false, false, false, false, false, false, false, false, false, false, false, false, false, false, false, false, false, false, false, false, false, false, false, false, false, false, false, false, false, false, false, false, false, false, false, false, false, false, false, false, false, false, false, false, false, false, false, false, false, false, false, false, false, false, false, false, false, false, false, false, false, false, false, false, false, false, false, false, false, false, false, false, false, false, false, false, true, true, true, true, true, true, true, true, true, true, true, true, true, true, true] (by kernel_rfl) (by kernel_rfl) (by kernel_rfl) [FP.eq (.pointer (some ⟨gl, 0, none⟩)), FP.eq (.int .i64 0), FP.eq (.bool true), FP.eq (.bool true), FP.eq (.pointer (some ⟨gl, 0, none⟩)), FP.eq (.int .i64 (rows.length : Int)), FP.eq (.int .i64 (rows.length : Int)), FP.eq (.bool true), FP.eq (.bool true), FP.eq (.bool true), FP.eq (.int .i64 (rows.length : Int)), FP.eq (.slice Ar rows.length cr), FP.eq (.int .i64 (rows.length : Int)), FP.eq (.bool true), FP.eq (.bool true), FP.eq (.bool true)] ?_ ?_
      · refine allFrom_cons ?_ ?_
        · intro a_ w_ hk_
          have h11 : a_.eval (.tmp 11) = .pointer (some ⟨gl, 0, none⟩) := hk_.old 11 (by kernel_rfl)
          have hx_ := hk_.ext
          clear hk_
          refine flow_plain rfl ?_
          exact gives_move rfl ⟨Below.refl _ _, h11⟩
        refine allFrom_cons ?_ ?_
        · intro a_ w_ hk_
          have h117 : a_.eval (.tmp 117) = (.pointer (some ⟨gl, 0, none⟩)) := hk_.got 0 117 _ (by kernel_rfl) rfl rfl
          have hx_ := hk_.ext
          clear hk_
          refine flow_plain rfl ?_
          unfold gives
          have hc_ : ∀ v, a_.eval (.const v) = v := fun _ => rfl
          have hn_ : ∀ f, a_.eval (.func f) = .func (.func f) #[] #[] := fun _ => rfl
          generalize a_.eval = ρ_ at *
          go_simp
          exact (aErr w_ (HI.out.has.log.below hx_ HI.out.below.size)).mono fun e w' ⟨h1, h2⟩ => ⟨_, h1, h2 ▸ Below.refl _ _, by rw [HI.out.has.inv.e]; rfl⟩
        refine allFrom_cons ?_ ?_
        · intro a_ w_ hk_
          have h118 : a_.eval (.tmp 118) = (.int .i64 0) := hk_.got 1 118 _ (by kernel_rfl) rfl rfl
          have hx_ := hk_.ext
          clear hk_
          refine flow_plain rfl ?_
          unfold gives
          have hc_ : ∀ v, a_.eval (.const v) = v := fun _ => rfl
          have hn_ : ∀ f, a_.eval (.func f) = .func (.func f) #[] #[] := fun _ => rfl
          generalize a_.eval = ρ_ at *
          go_simp
          exact ⟨Below.refl _ _, rfl⟩
        refine allFrom_cons ?_ ?_
        · intro a_ w_ hk_
          have h119 : a_.eval (.tmp 119) = (.bool true) := hk_.got 2 119 _ (by kernel_rfl) rfl rfl
          have hx_ := hk_.ext
          clear hk_
          refine flow_plain rfl ?_
          exact gives_move rfl ⟨Below.refl _ _, h119⟩
        refine allFrom_cons ?_ ?_
        · intro a_ w_ hk_
          have h11 : a_.eval (.tmp 11) = .pointer (some ⟨gl, 0, none⟩) := hk_.old 11 (by kernel_rfl)
          have hg_ : a_.eval (.tmp 120) = .bool true := hk_.got 3 120 _ (by kernel_rfl) rfl rfl
          have hy_ := hk_.want 3 _ 120 true rfl rfl hg_
          have hx_ := hk_.ext
          clear hk_
          refine flow_want rfl hy_ ?_
          exact gives_move rfl ⟨Below.refl _ _, h11⟩
        refine allFrom_cons ?_ ?_
        · intro a_ w_ hk_
          have h121 : a_.eval (.tmp 121) = (.pointer (some ⟨gl, 0, none⟩)) := hk_.got 4 121 _ (by kernel_rfl) rfl rfl
          have hg_ : a_.eval (.tmp 120) = .bool true := hk_.got 3 120 _ (by kernel_rfl) rfl rfl
          have hy_ := hk_.want 3 _ 120 true rfl rfl hg_
          have hx_ := hk_.ext
          clear hk_
          refine flow_want rfl hy_ ?_
          unfold gives
          have hc_ : ∀ v, a_.eval (.const v) = v := fun _ => rfl
          have hn_ : ∀ f, a_.eval (.func f) = .func (.func f) #[] #[] := fun _ => rfl
          clear hy_ hg_
          generalize a_.eval = ρ_ at *
          go_simp
          exact (aSure w_ (HI.out.has.log.below hx_ HI.out.below.size)).mono fun e w' ⟨h1, h2⟩ => ⟨_, h1, h2 ▸ Below.refl _ _, by rw [HSU.out]; rfl⟩
        refine allFrom_cons ?_ ?_
        · intro a_ w_ hk_
          have h13 : a_.eval (.tmp 13) = .int .i64 (rows.length : Int) := hk_.old 13 (by kernel_rfl)
          have hg_ : a_.eval (.tmp 120) = .bool true := hk_.got 3 120 _ (by kernel_rfl) rfl rfl
          have hy_ := hk_.want 3 _ 120 true rfl rfl hg_
          have hx_ := hk_.ext
          clear hk_
          refine flow_want rfl hy_ ?_
          exact gives_move rfl ⟨Below.refl _ _, h13⟩
        refine allFrom_cons ?_ ?_
        · intro a_ w_ hk_
          have h122 : a_.eval (.tmp 122) = (.int .i64 (rows.length : Int)) := hk_.got 5 122 _ (by kernel_rfl) rfl rfl
          have h123 : a_.eval (.tmp 123) = (.int .i64 (rows.length : Int)) := hk_.got 6 123 _ (by kernel_rfl) rfl rfl
          have hg_ : a_.eval (.tmp 120) = .bool true := hk_.got 3 120 _ (by kernel_rfl) rfl rfl
          have hy_ := hk_.want 3 _ 120 true rfl rfl hg_
          have hx_ := hk_.ext
          clear hk_
          refine flow_want rfl hy_ ?_
          unfold gives
          have hc_ : ∀ v, a_.eval (.const v) = v := fun _ => rfl
          have hn_ : ∀ f, a_.eval (.func f) = .func (.func f) #[] #[] := fun _ => rfl
          clear hy_ hg_
          generalize a_.eval = ρ_ at *
          go_simp
          exact ⟨Below.refl _ _, rfl⟩
        refine allFrom_cons ?_ ?_
        · intro a_ w_ hk_
          have h120 : a_.eval (.tmp 120) = (.bool true) := hk_.got 3 120 _ (by kernel_rfl) rfl rfl
          have h124 : a_.eval (.tmp 124) = (.bool true) := hk_.got 7 124 _ (by kernel_rfl) rfl rfl
          have hx_ := hk_.ext
          clear hk_
          refine flow_plain rfl ?_
          exact gives_pick rfl h120 ⟨Below.refl _ _, h124⟩
        refine allFrom_cons ?_ ?_
        · intro a_ w_ hk_
          have h125 : a_.eval (.tmp 125) = (.bool true) := hk_.got 8 125 _ (by kernel_rfl) rfl rfl
          have hx_ := hk_.ext
          clear hk_
          refine flow_plain rfl ?_
          exact gives_move rfl ⟨Below.refl _ _, h125⟩
        refine allFrom_cons ?_ ?_
        · intro a_ w_ hk_
          have h13 : a_.eval (.tmp 13) = .int .i64 (rows.length : Int) := hk_.old 13 (by kernel_rfl)
          have hg_ : a_.eval (.tmp 126) = .bool true := hk_.got 9 126 _ (by kernel_rfl) rfl rfl
          have hy_ := hk_.want 9 _ 126 true rfl rfl hg_
          have hx_ := hk_.ext
          clear hk_
          refine flow_want rfl hy_ ?_
          exact gives_move rfl ⟨Below.refl _ _, h13⟩
        refine allFrom_cons ?_ ?_
        · intro a_ w_ hk_
          have h0 : a_.eval (.tmp 0) = .slice Ar rows.length cr := hk_.old 0 (by kernel_rfl)
          have hg_ : a_.eval (.tmp 126) = .bool true := hk_.got 9 126 _ (by kernel_rfl) rfl rfl
          have hy_ := hk_.want 9 _ 126 true rfl rfl hg_
          have hx_ := hk_.ext
          clear hk_
          refine flow_want rfl hy_ ?_
          exact gives_move rfl ⟨Below.refl _ _, h0⟩
        refine allFrom_cons ?_ ?_
        · intro a_ w_ hk_
          have h128 : a_.eval (.tmp 128) = (.slice Ar rows.length cr) := hk_.got 11 128 _ (by kernel_rfl) rfl rfl
          have hg_ : a_.eval (.tmp 126) = .bool true := hk_.got 9 126 _ (by kernel_rfl) rfl rfl
          have hy_ := hk_.want 9 _ 126 true rfl rfl hg_
          have hx_ := hk_.ext
          clear hk_
          refine flow_want rfl hy_ ?_
          unfold gives
          have hc_ : ∀ v, a_.eval (.const v) = v := fun _ => rfl
          have hn_ : ∀ f, a_.eval (.func f) = .func (.func f) #[] #[] := fun _ => rfl
          clear hy_ hg_
          generalize a_.eval = ρ_ at *
          go_simp
          exact ⟨Below.refl _ _, rfl⟩
        refine allFrom_cons ?_ ?_
        · intro a_ w_ hk_
          have h127 : a_.eval (.tmp 127) = (.int .i64 (rows.length : Int)) := hk_.got 10 127 _ (by kernel_rfl) rfl rfl
          have h129 : a_.eval (.tmp 129) = (.int .i64 (rows.length : Int)) := hk_.got 12 129 _ (by kernel_rfl) rfl rfl
          have hg_ : a_.eval (.tmp 126) = .bool true := hk_.got 9 126 _ (by kernel_rfl) rfl rfl
          have hy_ := hk_.want 9 _ 126 true rfl rfl hg_
          have hx_ := hk_.ext
          clear hk_
          refine flow_want rfl hy_ ?_
          unfold gives
          have hc_ : ∀ v, a_.eval (.const v) = v := fun _ => rfl
          have hn_ : ∀ f, a_.eval (.func f) = .func (.func f) #[] #[] := fun _ => rfl
          clear hy_ hg_
          generalize a_.eval = ρ_ at *
          go_simp
          exact ⟨Below.refl _ _, rfl⟩
        refine allFrom_cons ?_ ?_
        · intro a_ w_ hk_
          have h126 : a_.eval (.tmp 126) = (.bool true) := hk_.got 9 126 _ (by kernel_rfl) rfl rfl
          have h130 : a_.eval (.tmp 130) = (.bool true) := hk_.got 13 130 _ (by kernel_rfl) rfl rfl
          have hx_ := hk_.ext
          clear hk_
          refine flow_plain rfl ?_
          exact gives_pick rfl h126 ⟨Below.refl _ _, h130⟩
        refine allFrom_cons ?_ ?_
        · intro a_ w_ hk_
          have h131 : a_.eval (.tmp 131) = (.bool true) := hk_.got 14 131 _ (by kernel_rfl) rfl rfl
          have hx_ := hk_.ext
          clear hk_
          refine flow_plain rfl ?_
          exact gives_assign rfl ⟨Below.refl _ _, h131⟩
        exact allFrom_nil
      intro f_ w_ hx_ hf_
      have h117 : f_ 117 = (.pointer (some ⟨gl, 0, none⟩)) := hf_ 0 117 _ (by decide) rfl rfl
      have h118 : f_ 118 = (.int .i64 0) := hf_ 1 118 _ (by decide) rfl rfl
      have h119 : f_ 119 = (.bool true) := hf_ 2 119 _ (by decide) rfl rfl
      have h120 : f_ 120 = (.bool true) := hf_ 3 120 _ (by decide) rfl rfl
      have h121 : f_ 121 = (.pointer (some ⟨gl, 0, none⟩)) := hf_ 4 121 _ (by decide) rfl rfl
      have h122 : f_ 122 = (.int .i64 (rows.length : Int)) := hf_ 5 122 _ (by decide) rfl rfl
      have h123 : f_ 123 = (.int .i64 (rows.length : Int)) := hf_ 6 123 _ (by decide) rfl rfl
      have h124 : f_ 124 = (.bool true) := hf_ 7 124 _ (by decide) rfl rfl
      have h125 : f_ 125 = (.bool true) := hf_ 8 125 _ (by decide) rfl rfl
      have h126 : f_ 126 = (.bool true) := hf_ 9 126 _ (by decide) rfl rfl
      have h127 : f_ 127 = (.int .i64 (rows.length : Int)) := hf_ 10 127 _ (by decide) rfl rfl
      have h128 : f_ 128 = (.slice Ar rows.length cr) := hf_ 11 128 _ (by decide) rfl rfl
      have h129 : f_ 129 = (.int .i64 (rows.length : Int)) := hf_ 12 129 _ (by decide) rfl rfl
      have h130 : f_ 130 = (.bool true) := hf_ 13 130 _ (by decide) rfl rfl
      have h131 : f_ 131 = (.bool true) := hf_ 14 131 _ (by decide) rfl rfl
      have h6 : f_ 6 = (.bool true) := hf_ 15 6 _ (by decide) rfl rfl
      simp only [mix, h117, h118, h119, h120, h121, h122, h123, h124, h125, h126, h127, h128, h129, h130, h131, h6]
      clear h117 h118 h119 h120 h121 h122 h123 h124 h125 h126 h127 h128 h129 h130 h131 h6
      clear hf_
      go_wp2_with fail
      exact bodyPost_ret (results_tmp rfl _ _ _) rfl ⟨rfl, HB0.out.trans ((HI.out.below.mono hB0).trans (hx_.mono (Nat.le_trans hB0 HI.out.below.size)))⟩
end Go.Proofs.Ytlpdiamgpnmeoaa
