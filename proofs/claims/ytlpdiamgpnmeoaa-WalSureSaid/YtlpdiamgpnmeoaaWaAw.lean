
/- Records: awake walked. -/
import Derived.Test.YtlpdiamgpnmeoaaWaY
namespace Go.Proofs.Ytlpdiamgpnmeoaa
open Go.RowKit
set_option linter.unusedVariables false
/-- One byte, laid out. -/
def Lit1 (w : World) (g : Nat) (y : UInt8) : Prop := w.heap[g]? = some (.cells ([y].map cb).toArray tU8 (1, 2))
theorem lit1 {w : World} {y : UInt8} {v : Int} (h : (y.toNat : Int) = v) : Lit1 (w.alloc (.cells #[.int .u8 v] tU8 (1, 2))) w.heap.size y := by
  subst h
  exact heap_new rfl
theorem lit1_rd {w W : World} {ex : List Nat} {B g : Nat} {y : UInt8} (h : Lit1 w g y) (hx : XFr ex B w W) (hn : tU8 ∉ ex) : Rd W W.heap.size (some ⟨g, 0, none⟩) ([y].map cb) := rd_of_row (hx.keep g _ _ _ h hn) rfl
theorem awS : sizeD (newD 8) = 3 := rfl
set_option maxRecDepth 100000 in
set_option maxHeartbeats 4000000 in
theorem awake_any (w : World) : Calls Try.prog 9 #[] w fun e w' => e = .returned (.bool true) ∧ Below w.heap.size w w' := by
  go_enter Try.func9, Try.ntmps9
  rw [hold 12]
  go_wp2_with fail
  refine (New_yes w 8 (by decide) (by decide)).mono ?_
  rintro e w1 ⟨g, rfl, hd1, hb1⟩
  go_wp2_with fail
  refine (cOpen w1 hd1 hb1.size (by decide) rfl rfl (new_dur 8 (by omega))).mono ?_
  rintro e w2 ⟨gl, rfl, hh2, hb2⟩
  rw [awS] at hh2
  have hb02 := bx_trans hb1 hb2
  obtain ⟨D0, hD0⟩ : ∃ D0, D0 = newD 8 := ⟨_, rfl⟩
  rw [← hD0] at hh2
  have q0 : D0.fails = -1 ∧ D0.n = 8 ∧ D0.loose.length = 0 := by rw [hD0]; exact ⟨rfl, rfl, rfl⟩
  clear hD0 hd1
  have hb03 : Below w.heap.size w (w2.alloc (.cells #[.int .u8 97] tU8 (1, 2))) := bx_alloc hb02 _
  have hh3 : Has (w2.alloc (.cells #[.int .u8 97] tU8 (1, 2))) w.heap.size gl g D0 { size := 3, turn := 0, area := 0, b := framL [], rows := [], sure := ([] : List (List UInt8)).length, e := 0 } [] := hh2.below (bx_alloc (Below.refl _ _) _) hb02.size
  have hl3 := lit1 (w := w2) (y := 97) (v := 97) rfl
  have HH3 := hid hh3
  have HL3 := hid hl3
  have HB3 := hid hb03
  have kc := conv_const Try.underlying23 Try.underlying5
  clear hh3 hl3 hb03 hh2 hb1 hb2 hb02
  go_wp2_with fail
  refine (cAppend _ HH3.out q0.1 HB3.out.size (by show D0.loose.length + 3 * 256 < _; omega) (b := [97]) (fun W hx => lit1_rd HL3.out hx (by decide)) (Nat.le_refl _) (by decide) (by decide)).mono ?_
  rintro e w4 ⟨rfl, D1, hh4, r1, r2, r3, hx4⟩
  have hb04 : Below w.heap.size w w4 := HB3.out.trans hx4.below
  obtain ⟨L1, hL1⟩ : ∃ L1 : LS, L1 = { size := 3, turn := 0, area := 0, b := framL [] ++ frameL [97], rows := [] ++ [[97]], sure := ([] : List (List UInt8)).length, e := 0 } := ⟨_, rfl⟩
  have p1 : L1.size = 3 ∧ L1.turn = 0 ∧ L1.rows = [[97]] ∧ L1.b.length = 9 := by rw [hL1]; exact ⟨rfl, rfl, rfl, by show (framL [] ++ frameL [97]).length = 9; rw [List.length_append, frameL_len]; rfl⟩
  replace hh4 : Has w4 w.heap.size gl g D1 L1 [] := by rw [hL1]; exact hh4
  have hl1 : D1.loose.length ≤ 3 := by have : D1.loose.length ≤ D0.loose.length + 3 := r3; omega
  clear hL1 HH3 HL3 hx4 r3
  go_wp2_with fail
  refine (cSync w4 hh4 r1 hb04.size (by omega) (by rw [p1.2.1]; decide)).mono ?_
  rintro e w5 ⟨rfl, D2, L2, hh5, s1, s2, s3, s4, s5, s6, s7, hx5⟩
  rw [p1.2.2.1] at hh5 s1
  have hb05 := hb04.trans hx5.below
  have hl2 : D2.loose.length ≤ 6 := by omega
  have p2 : L2.size = 3 ∧ L2.turn ≤ 1 ∧ L2.b.length = 9 := ⟨by rw [s3]; exact p1.1, by omega, by rw [s2]; exact p1.2.2.2⟩
  have hb06 : Below w.heap.size w (w5.alloc (.cells #[.int .u8 98] tU8 (1, 2))) := bx_alloc hb05 _
  have hh6 : Has (w5.alloc (.cells #[.int .u8 98] tU8 (1, 2))) w.heap.size gl g D2 L2 [[97]] := hh5.below (bx_alloc (Below.refl _ _) _) hb05.size
  have hl6 := lit1 (w := w5) (y := 98) (v := 98) rfl
  have HH6 := hid hh6
  have HL6 := hid hl6
  have HB6 := hid hb06
  have hrm : D2.loose.length + L2.size * 256 < 1000000 := by rw [p2.1]; omega
  have hft : L2.b.length + (8 + [(98 : UInt8)].length) ≤ L2.size * 256 := by rw [p2.1, p2.2.2]; decide
  clear hh6 hl6 hb06 hx5 hh4 s2 s3 s4
  go_wp2_with fail
  refine (cAppend _ HH6.out s5 HB6.out.size hrm (b := [98]) (fun W hx => lit1_rd HL6.out hx (by decide)) (Nat.le_refl _) (by decide) hft).mono ?_
  rintro e w7 ⟨rfl, D3, hh7, u1, u2, u3, hx7⟩
  have hb07 : Below w.heap.size w w7 := HB6.out.trans hx7.below
  obtain ⟨L3, hL3⟩ : ∃ L3 : LS, L3 = { L2 with b := L2.b ++ frameL [98], rows := L2.rows ++ [[98]] } := ⟨_, rfl⟩
  rw [← hL3] at hh7
  have p3 : L3.rows = [[97], [98]] ∧ L3.sure = 1 := by
    constructor
    · rw [hL3, s1]; rfl
    · have := hh7.inv.sure; exact this
  have hD3 : D3.n = 8 := by omega
  clear hL3 HH6 HL6 hx7 u3 hrm hft
  go_wp2_with fail
  refine (aRecords w7 hh7.log hh7.size).mono ?_
  rintro e w8 ⟨v8, vs8, rfl, hro8, hb8⟩
  rw [p3.1] at hro8
  obtain ⟨A8, c8, rfl, _, _, _⟩ := own_form hro8.own
  have hb08 := hb07.trans (hb8.mono hb07.size)
  have hh8 := hh7.below hb8 hb07.size
  have hb09 : Below w.heap.size w (w8.alloc (.cells #[.int .u8 255] tU8)) := bx_alloc hb08 _
  have hh9 : Has (w8.alloc (.cells #[.int .u8 255] tU8)) w.heap.size gl g D3 L3 [[97]] := hh8.below (bx_alloc (Below.refl _ _) _) hb08.size
  have hl9 : (w8.alloc (.cells #[.int .u8 255] tU8)).heap[w8.heap.size]? = some (.cells ([(255 : UInt8)].map cb).toArray tU8 (0, 0)) := heap_new rfl
  have HH9 := hid hh9
  have HL9 := hid hl9
  have HB9 := hid hb09
  clear hh9 hl9 hb09 hh8 hh7 hro8
  go_wp2_with fail
  refine (Crash_any _ (front := [255]) HH9.out.disk (Kp.of_out (B' := (w8.alloc (.cells #[.int .u8 255] tU8)).heap.size) (rd_of_row HL9.out rfl) (out_row HL9.out (by decide) (by decide) 0)) (Nat.le_refl _) (by show 1 ≤ maxLen; unfold maxLen; omega)).mono ?_
  rintro e w10 ⟨rfl, hd10, hf10⟩
  have hlg10 : ALog w10 w.heap.size gl g (crashD D3 [255]) L3 := by
    obtain ⟨_, _, _, hq⟩ := HH9.out.log
    exact ⟨_, _, _, hq.dfr hd10 hf10 rfl⟩
  have hb010 := HB9.out.trans hf10.below
  have hdur := HH9.out.inv.crash [255]
  have hsz3 : L3.size = sizeD (crashD D3 [255]) := HH9.out.inv.size
  rw [hsz3] at hdur
  have hsz4 : sizeD (crashD D3 [255]) = 3 := by show (D3.n - 2) / 2 = 3; rw [hD3]
  have HDU := hid hdur
  have HD10 := hid hd10
  have HLG := hid hlg10
  have hs1 := hsz3.trans hsz4
  clear hdur hd10 hlg10 HH9 HL9 hf10 hsz3
  go_wp2_with fail
  refine (cOpen w10 HD10.out hb010.size (by show 4 ≤ D3.n; omega) rfl rfl HDU.out).mono ?_
  rintro e w11 ⟨gm, rfl, hh11, hb11⟩
  rw [hsz4] at hh11
  obtain ⟨D4, hD4⟩ : ∃ D4, D4 = crashD D3 [255] := ⟨_, rfl⟩
  rw [← hD4] at hh11
  obtain ⟨L4, hL4⟩ : ∃ L4 : LS, L4 = { size := 3, turn := L3.turn, area := L3.area, b := framL [[97]], rows := [[97]], sure := [[(97 : UInt8)]].length, e := 0 } := ⟨_, rfl⟩
  rw [← hL4] at hh11
  have p4 : L4.size = 3 ∧ L4.rows = [[97]] ∧ L4.b.length = 9 ∧ L4.e = 0 := by rw [hL4]; exact ⟨rfl, rfl, by show (framL [[97]]).length = 9; simp [framL, frameL_len], rfl⟩
  have hlgl := HLG.out.below hb11 hb010.size
  rw [← hD4] at hlgl
  have hb011 := hb010.trans (hb11.mono hb010.size)
  clear hL4 hD4
  go_wp2_with fail
  refine (aRecords w11 hh11.log hh11.size).mono ?_
  rintro e w12 ⟨v12, vs12, rfl, hro12, hb12⟩
  rw [p4.2.1] at hro12
  have hh12 := hh11.below hb12 hb011.size
  have hlg12 := hlgl.below hb12 hb011.size
  have hb012 := hb011.trans (hb12.mono hb011.size)
  obtain ⟨A12, c12, rfl, _, _, hbb⟩ := hro12.bb
  obtain ⟨b, off, Ax, cx, rfl, hbB, hcell, hlc, hrx⟩ := hbb.at_ (k := 0) (by decide)
  have HRX := hid hrx
  have HH12 := hid hh12
  have HG12 := hid hlg12
  clear hrx hh12 hlg12 hh11 hlgl hbb hro12
  have hcell0 : w12.cell? ⟨b, off, none⟩ = some (.slice Ax 1 cx) := hcell
  have hrx1 : Rd w12 w12.heap.size Ax ([(97 : UInt8)].map cb) := HRX.out
  have hfr : L4.size * 256 - L4.b.length = 759 := by rw [p4.1, p4.2.2.1]
  have HP3 := hid p3
  have HP4 := hid p4
  have HFR := hid hfr
  have HR1 := hid hrx1
  clear hrx1 hfr p3 p4 hcell HRX
  go_wp2_with fail
  refine wp_hold (wp_region_lit ?_)
  refine wp_flowSE [0, 1, 3, 7, 15, 31, 63, 127, 255, 511, 1023, 2047, 4095, 8191, 16383, 32767, 65535, 131071, 262143, 524287, 1048575, 2097151, 4194303, 8388607, 16777215, 33554431, 67108863, 134217727, 268435455, 536870911, 1073741823, 2147483647, 4294967295, 8589934591, 17179869183, 34359738367, 68719476735, 137438953471, 274877906943, 549755813887, 1099511627775, 2199023255551, 4398046511103, 8796093022207, 17592186044415, 35184372088831] 46 [true, false, false, false, false, false, false, false, false, false, false, false, false, false, false, false, false, false, false, false, false, false, false, false, false, false, false, false, false, false, false, false, false, false, false, false, false, false, false, false, false, false, false, false, false, false, false, false, false, false, true, true, true, true, true, true, true, true, true, true, true, true, true, true, true, true, true, true, true, true, true, true, true, true, true, true, true, true, true, true, true, true, true, true, true, true, true, true, true, true, true, true, true, true, true] (by kernel_rfl) (by kernel_rfl) (by kernel_rfl) [FP.eq (.int .i64 0), FP.eq (.bool true), FP.eq (.bool true), FP.eq (.int .i64 0), FP.eq (.bool true), FP.eq (.bool true), FP.eq (.bool true), FP.eq (.int .i64 0), FP.eq (.bool true), FP.eq (.bool true), FP.eq (.bool true), FP.eq (.int .i64 2), FP.eq (.bool true), FP.eq (.bool true), FP.eq (.bool true), FP.eq (.pointer (some ⟨gl, 0, none⟩)), FP.eq (.int .i64 1), FP.eq (.bool true), FP.eq (.bool true), FP.eq (.bool true), FP.eq (.int .i64 0), FP.eq (.bool true), FP.eq (.bool true), FP.eq (.bool true), FP.eq (.slice (some ⟨b, off, none⟩) 1 c12), FP.eq (.int .i64 1), FP.eq (.bool true), FP.eq (.bool true), FP.eq (.bool true), FP.eq (.slice (some ⟨b, off, none⟩) 1 c12), FP.eq (.pointer (some ⟨b, off, none⟩)), FP.eq (.slice Ax 1 cx), FP.eq (.string ⟨#[97]⟩), FP.eq (.bool true), FP.eq (.bool true), FP.eq (.bool true), FP.eq (.pointer (some ⟨gm, 0, none⟩)), FP.eq (.int .i64 759), FP.eq (.bool true), FP.eq (.bool true), FP.eq (.bool true), FP.eq (.pointer (some ⟨gm, 0, none⟩)), FP.eq (.int .i64 0), FP.eq (.bool true), FP.eq (.bool true), FP.eq (.bool true)] ?_ ?_
  · refine allFrom_cons ?_ ?_
    · intro a_ w_ hk_
      have h5 : a_.eval (.tmp 5) = .int .i64 0 := hk_.old 5 (by kernel_rfl)
      have hx_ := hk_.ext
      clear hk_
      refine flow_plain rfl ?_
      exact gives_move rfl ⟨Below.refl _ _, h5⟩
    refine allFrom_cons ?_ ?_
    · intro a_ w_ hk_
      have h50 : a_.eval (.tmp 50) = (.int .i64 0) := hk_.got 0 50 _ (by kernel_rfl) rfl rfl
      have hx_ := hk_.ext
      clear hk_
      refine flow_plain rfl ?_
      unfold gives
      have hc_ : ∀ v, a_.eval (.const v) = v := fun _ => rfl
      have hn_ : ∀ f, a_.eval (.func f) = .func (.func f) #[] #[] := fun _ => rfl
      generalize a_.eval = ρ_ at *
      go_simp
      exact ⟨Below.refl _ _, rfl⟩
    refine allFrom_cons ?_ ?_
    · intro a_ w_ hk_
      have h51 : a_.eval (.tmp 51) = (.bool true) := hk_.got 1 51 _ (by kernel_rfl) rfl rfl
      have hx_ := hk_.ext
      clear hk_
      refine flow_plain rfl ?_
      exact gives_move rfl ⟨Below.refl _ _, h51⟩
    refine allFrom_cons ?_ ?_
    · intro a_ w_ hk_
      have h6 : a_.eval (.tmp 6) = .int .i64 0 := hk_.old 6 (by kernel_rfl)
      have hg_ : a_.eval (.tmp 52) = .bool true := hk_.got 2 52 _ (by kernel_rfl) rfl rfl
      have hy_ := hk_.want 2 _ 52 true rfl rfl hg_
      have hx_ := hk_.ext
      clear hk_
      refine flow_want rfl hy_ ?_
      exact gives_move rfl ⟨Below.refl _ _, h6⟩
    refine allFrom_cons ?_ ?_
    · intro a_ w_ hk_
      have h53 : a_.eval (.tmp 53) = (.int .i64 0) := hk_.got 3 53 _ (by kernel_rfl) rfl rfl
      have hg_ : a_.eval (.tmp 52) = .bool true := hk_.got 2 52 _ (by kernel_rfl) rfl rfl
      have hy_ := hk_.want 2 _ 52 true rfl rfl hg_
      have hx_ := hk_.ext
      clear hk_
      refine flow_want rfl hy_ ?_
      unfold gives
      have hc_ : ∀ v, a_.eval (.const v) = v := fun _ => rfl
      have hn_ : ∀ f, a_.eval (.func f) = .func (.func f) #[] #[] := fun _ => rfl
      clear hy_ hg_
      generalize a_.eval = ρ_ at *
      go_simp
      exact ⟨Below.refl _ _, rfl⟩
    refine allFrom_cons ?_ ?_
    · intro a_ w_ hk_
      have h52 : a_.eval (.tmp 52) = (.bool true) := hk_.got 2 52 _ (by kernel_rfl) rfl rfl
      have h54 : a_.eval (.tmp 54) = (.bool true) := hk_.got 4 54 _ (by kernel_rfl) rfl rfl
      have hx_ := hk_.ext
      clear hk_
      refine flow_plain rfl ?_
      exact gives_pick rfl h52 ⟨Below.refl _ _, h54⟩
    refine allFrom_cons ?_ ?_
    · intro a_ w_ hk_
      have h55 : a_.eval (.tmp 55) = (.bool true) := hk_.got 5 55 _ (by kernel_rfl) rfl rfl
      have hx_ := hk_.ext
      clear hk_
      refine flow_plain rfl ?_
      exact gives_move rfl ⟨Below.refl _ _, h55⟩
    refine allFrom_cons ?_ ?_
    · intro a_ w_ hk_
      have h7 : a_.eval (.tmp 7) = .int .i64 0 := hk_.old 7 (by kernel_rfl)
      have hg_ : a_.eval (.tmp 56) = .bool true := hk_.got 6 56 _ (by kernel_rfl) rfl rfl
      have hy_ := hk_.want 6 _ 56 true rfl rfl hg_
      have hx_ := hk_.ext
      clear hk_
      refine flow_want rfl hy_ ?_
      exact gives_move rfl ⟨Below.refl _ _, h7⟩
    refine allFrom_cons ?_ ?_
    · intro a_ w_ hk_
      have h57 : a_.eval (.tmp 57) = (.int .i64 0) := hk_.got 7 57 _ (by kernel_rfl) rfl rfl
      have hg_ : a_.eval (.tmp 56) = .bool true := hk_.got 6 56 _ (by kernel_rfl) rfl rfl
      have hy_ := hk_.want 6 _ 56 true rfl rfl hg_
      have hx_ := hk_.ext
      clear hk_
      refine flow_want rfl hy_ ?_
      unfold gives
      have hc_ : ∀ v, a_.eval (.const v) = v := fun _ => rfl
      have hn_ : ∀ f, a_.eval (.func f) = .func (.func f) #[] #[] := fun _ => rfl
      clear hy_ hg_
      generalize a_.eval = ρ_ at *
      go_simp
      exact ⟨Below.refl _ _, rfl⟩
    refine allFrom_cons ?_ ?_
    · intro a_ w_ hk_
      have h56 : a_.eval (.tmp 56) = (.bool true) := hk_.got 6 56 _ (by kernel_rfl) rfl rfl
      have h58 : a_.eval (.tmp 58) = (.bool true) := hk_.got 8 58 _ (by kernel_rfl) rfl rfl
      have hx_ := hk_.ext
      clear hk_
      refine flow_plain rfl ?_
      exact gives_pick rfl h56 ⟨Below.refl _ _, h58⟩
    refine allFrom_cons ?_ ?_
    · intro a_ w_ hk_
      have h59 : a_.eval (.tmp 59) = (.bool true) := hk_.got 9 59 _ (by kernel_rfl) rfl rfl
      have hx_ := hk_.ext
      clear hk_
      refine flow_plain rfl ?_
      exact gives_move rfl ⟨Below.refl _ _, h59⟩
    refine allFrom_cons ?_ ?_
    · intro a_ w_ hk_
      have h8 : a_.eval (.tmp 8) = .int .i64 2 := hk_.old 8 (by kernel_rfl)
      have hg_ : a_.eval (.tmp 60) = .bool true := hk_.got 10 60 _ (by kernel_rfl) rfl rfl
      have hy_ := hk_.want 10 _ 60 true rfl rfl hg_
      have hx_ := hk_.ext
      clear hk_
      refine flow_want rfl hy_ ?_
      exact gives_move rfl ⟨Below.refl _ _, h8⟩
    refine allFrom_cons ?_ ?_
    · intro a_ w_ hk_
      have h61 : a_.eval (.tmp 61) = (.int .i64 2) := hk_.got 11 61 _ (by kernel_rfl) rfl rfl
      have hg_ : a_.eval (.tmp 60) = .bool true := hk_.got 10 60 _ (by kernel_rfl) rfl rfl
      have hy_ := hk_.want 10 _ 60 true rfl rfl hg_
      have hx_ := hk_.ext
      clear hk_
      refine flow_want rfl hy_ ?_
      unfold gives
      have hc_ : ∀ v, a_.eval (.const v) = v := fun _ => rfl
      have hn_ : ∀ f, a_.eval (.func f) = .func (.func f) #[] #[] := fun _ => rfl
      clear hy_ hg_
      generalize a_.eval = ρ_ at *
      go_simp
      exact ⟨Below.refl _ _, rfl⟩
    refine allFrom_cons ?_ ?_
    · intro a_ w_ hk_
      have h60 : a_.eval (.tmp 60) = (.bool true) := hk_.got 10 60 _ (by kernel_rfl) rfl rfl
      have h62 : a_.eval (.tmp 62) = (.bool true) := hk_.got 12 62 _ (by kernel_rfl) rfl rfl
      have hx_ := hk_.ext
      clear hk_
      refine flow_plain rfl ?_
      exact gives_pick rfl h60 ⟨Below.refl _ _, h62⟩
    refine allFrom_cons ?_ ?_
    · intro a_ w_ hk_
      have h63 : a_.eval (.tmp 63) = (.bool true) := hk_.got 13 63 _ (by kernel_rfl) rfl rfl
      have hx_ := hk_.ext
      clear hk_
      refine flow_plain rfl ?_
      exact gives_move rfl ⟨Below.refl _ _, h63⟩
    refine allFrom_cons ?_ ?_
    · intro a_ w_ hk_
      have h3 : a_.eval (.tmp 3) = .pointer (some ⟨gl, 0, none⟩) := hk_.old 3 (by kernel_rfl)
      have hg_ : a_.eval (.tmp 64) = .bool true := hk_.got 14 64 _ (by kernel_rfl) rfl rfl
      have hy_ := hk_.want 14 _ 64 true rfl rfl hg_
      have hx_ := hk_.ext
      clear hk_
      refine flow_want rfl hy_ ?_
      exact gives_move rfl ⟨Below.refl _ _, h3⟩
    refine allFrom_cons ?_ ?_
    · intro a_ w_ hk_
      have h65 : a_.eval (.tmp 65) = (.pointer (some ⟨gl, 0, none⟩)) := hk_.got 15 65 _ (by kernel_rfl) rfl rfl
      have hg_ : a_.eval (.tmp 64) = .bool true := hk_.got 14 64 _ (by kernel_rfl) rfl rfl
      have hy_ := hk_.want 14 _ 64 true rfl rfl hg_
      have hx_ := hk_.ext
      clear hk_
      refine flow_want rfl hy_ ?_
      unfold gives
      have hc_ : ∀ v, a_.eval (.const v) = v := fun _ => rfl
      have hn_ : ∀ f, a_.eval (.func f) = .func (.func f) #[] #[] := fun _ => rfl
      clear hy_ hg_
      generalize a_.eval = ρ_ at *
      go_simp
      exact (aSure w_ (HG12.out.below hx_ hb012.size)).mono fun e w' ⟨h1, h2⟩ => ⟨_, h1, h2 ▸ Below.refl _ _, by rw [HP3.out.2]; rfl⟩
    refine allFrom_cons ?_ ?_
    · intro a_ w_ hk_
      have h66 : a_.eval (.tmp 66) = (.int .i64 1) := hk_.got 16 66 _ (by kernel_rfl) rfl rfl
      have hg_ : a_.eval (.tmp 64) = .bool true := hk_.got 14 64 _ (by kernel_rfl) rfl rfl
      have hy_ := hk_.want 14 _ 64 true rfl rfl hg_
      have hx_ := hk_.ext
      clear hk_
      refine flow_want rfl hy_ ?_
      unfold gives
      have hc_ : ∀ v, a_.eval (.const v) = v := fun _ => rfl
      have hn_ : ∀ f, a_.eval (.func f) = .func (.func f) #[] #[] := fun _ => rfl
      clear hy_ hg_
      generalize a_.eval = ρ_ at *
      go_simp
      exact ⟨Below.refl _ _, rfl⟩
    refine allFrom_cons ?_ ?_
    · intro a_ w_ hk_
      have h64 : a_.eval (.tmp 64) = (.bool true) := hk_.got 14 64 _ (by kernel_rfl) rfl rfl
      have h67 : a_.eval (.tmp 67) = (.bool true) := hk_.got 17 67 _ (by kernel_rfl) rfl rfl
      have hx_ := hk_.ext
      clear hk_
      refine flow_plain rfl ?_
      exact gives_pick rfl h64 ⟨Below.refl _ _, h67⟩
    refine allFrom_cons ?_ ?_
    · intro a_ w_ hk_
      have h68 : a_.eval (.tmp 68) = (.bool true) := hk_.got 18 68 _ (by kernel_rfl) rfl rfl
      have hx_ := hk_.ext
      clear hk_
      refine flow_plain rfl ?_
      exact gives_move rfl ⟨Below.refl _ _, h68⟩
    refine allFrom_cons ?_ ?_
    · intro a_ w_ hk_
      have h10 : a_.eval (.tmp 10) = .int .i64 0 := hk_.old 10 (by kernel_rfl)
      have hg_ : a_.eval (.tmp 69) = .bool true := hk_.got 19 69 _ (by kernel_rfl) rfl rfl
      have hy_ := hk_.want 19 _ 69 true rfl rfl hg_
      have hx_ := hk_.ext
      clear hk_
      refine flow_want rfl hy_ ?_
      exact gives_move rfl ⟨Below.refl _ _, h10⟩
    refine allFrom_cons ?_ ?_
    · intro a_ w_ hk_
      have h70 : a_.eval (.tmp 70) = (.int .i64 0) := hk_.got 20 70 _ (by kernel_rfl) rfl rfl
      have hg_ : a_.eval (.tmp 69) = .bool true := hk_.got 19 69 _ (by kernel_rfl) rfl rfl
      have hy_ := hk_.want 19 _ 69 true rfl rfl hg_
      have hx_ := hk_.ext
      clear hk_
      refine flow_want rfl hy_ ?_
      unfold gives
      have hc_ : ∀ v, a_.eval (.const v) = v := fun _ => rfl
      have hn_ : ∀ f, a_.eval (.func f) = .func (.func f) #[] #[] := fun _ => rfl
      clear hy_ hg_
      generalize a_.eval = ρ_ at *
      go_simp
      exact ⟨Below.refl _ _, rfl⟩
    refine allFrom_cons ?_ ?_
    · intro a_ w_ hk_
      have h69 : a_.eval (.tmp 69) = (.bool true) := hk_.got 19 69 _ (by kernel_rfl) rfl rfl
      have h71 : a_.eval (.tmp 71) = (.bool true) := hk_.got 21 71 _ (by kernel_rfl) rfl rfl
      have hx_ := hk_.ext
      clear hk_
      refine flow_plain rfl ?_
      exact gives_pick rfl h69 ⟨Below.refl _ _, h71⟩
    refine allFrom_cons ?_ ?_
    · intro a_ w_ hk_
      have h72 : a_.eval (.tmp 72) = (.bool true) := hk_.got 22 72 _ (by kernel_rfl) rfl rfl
      have hx_ := hk_.ext
      clear hk_
      refine flow_plain rfl ?_
      exact gives_move rfl ⟨Below.refl _ _, h72⟩
    refine allFrom_cons ?_ ?_
    · intro a_ w_ hk_
      have h11 : a_.eval (.tmp 11) = .slice (some ⟨b, off, none⟩) 1 c12 := hk_.old 11 (by kernel_rfl)
      have hg_ : a_.eval (.tmp 73) = .bool true := hk_.got 23 73 _ (by kernel_rfl) rfl rfl
      have hy_ := hk_.want 23 _ 73 true rfl rfl hg_
      have hx_ := hk_.ext
      clear hk_
      refine flow_want rfl hy_ ?_
      exact gives_move rfl ⟨Below.refl _ _, h11⟩
    refine allFrom_cons ?_ ?_
    · intro a_ w_ hk_
      have h74 : a_.eval (.tmp 74) = (.slice (some ⟨b, off, none⟩) 1 c12) := hk_.got 24 74 _ (by kernel_rfl) rfl rfl
      have hg_ : a_.eval (.tmp 73) = .bool true := hk_.got 23 73 _ (by kernel_rfl) rfl rfl
      have hy_ := hk_.want 23 _ 73 true rfl rfl hg_
      have hx_ := hk_.ext
      clear hk_
      refine flow_want rfl hy_ ?_
      unfold gives
      have hc_ : ∀ v, a_.eval (.const v) = v := fun _ => rfl
      have hn_ : ∀ f, a_.eval (.func f) = .func (.func f) #[] #[] := fun _ => rfl
      clear hy_ hg_
      generalize a_.eval = ρ_ at *
      go_simp
      exact ⟨Below.refl _ _, rfl⟩
    refine allFrom_cons ?_ ?_
    · intro a_ w_ hk_
      have h75 : a_.eval (.tmp 75) = (.int .i64 1) := hk_.got 25 75 _ (by kernel_rfl) rfl rfl
      have hg_ : a_.eval (.tmp 73) = .bool true := hk_.got 23 73 _ (by kernel_rfl) rfl rfl
      have hy_ := hk_.want 23 _ 73 true rfl rfl hg_
      have hx_ := hk_.ext
      clear hk_
      refine flow_want rfl hy_ ?_
      unfold gives
      have hc_ : ∀ v, a_.eval (.const v) = v := fun _ => rfl
      have hn_ : ∀ f, a_.eval (.func f) = .func (.func f) #[] #[] := fun _ => rfl
      clear hy_ hg_
      generalize a_.eval = ρ_ at *
      go_simp
      exact ⟨Below.refl _ _, rfl⟩
    refine allFrom_cons ?_ ?_
    · intro a_ w_ hk_
      have h73 : a_.eval (.tmp 73) = (.bool true) := hk_.got 23 73 _ (by kernel_rfl) rfl rfl
      have h76 : a_.eval (.tmp 76) = (.bool true) := hk_.got 26 76 _ (by kernel_rfl) rfl rfl
      have hx_ := hk_.ext
      clear hk_
      refine flow_plain rfl ?_
      exact gives_pick rfl h73 ⟨Below.refl _ _, h76⟩
    refine allFrom_cons ?_ ?_
    · intro a_ w_ hk_
      have h77 : a_.eval (.tmp 77) = (.bool true) := hk_.got 27 77 _ (by kernel_rfl) rfl rfl
      have hx_ := hk_.ext
      clear hk_
      refine flow_plain rfl ?_
      exact gives_move rfl ⟨Below.refl _ _, h77⟩
    refine allFrom_cons ?_ ?_
    · intro a_ w_ hk_
      have h11 : a_.eval (.tmp 11) = .slice (some ⟨b, off, none⟩) 1 c12 := hk_.old 11 (by kernel_rfl)
      have hg_ : a_.eval (.tmp 78) = .bool true := hk_.got 28 78 _ (by kernel_rfl) rfl rfl
      have hy_ := hk_.want 28 _ 78 true rfl rfl hg_
      have hx_ := hk_.ext
      clear hk_
      refine flow_want rfl hy_ ?_
      exact gives_move rfl ⟨Below.refl _ _, h11⟩
    refine allFrom_cons ?_ ?_
    · intro a_ w_ hk_
      have h79 : a_.eval (.tmp 79) = (.slice (some ⟨b, off, none⟩) 1 c12) := hk_.got 29 79 _ (by kernel_rfl) rfl rfl
      have hg_ : a_.eval (.tmp 78) = .bool true := hk_.got 28 78 _ (by kernel_rfl) rfl rfl
      have hy_ := hk_.want 28 _ 78 true rfl rfl hg_
      have hx_ := hk_.ext
      clear hk_
      refine flow_want rfl hy_ ?_
      unfold gives
      have hc_ : ∀ v, a_.eval (.const v) = v := fun _ => rfl
      have hn_ : ∀ f, a_.eval (.func f) = .func (.func f) #[] #[] := fun _ => rfl
      clear hy_ hg_
      generalize a_.eval = ρ_ at *
      go_simp
      exact ⟨Below.refl _ _, rfl⟩
    refine allFrom_cons ?_ ?_
    · intro a_ w_ hk_
      have h80 : a_.eval (.tmp 80) = (.pointer (some ⟨b, off, none⟩)) := hk_.got 30 80 _ (by kernel_rfl) rfl rfl
      have hg_ : a_.eval (.tmp 78) = .bool true := hk_.got 28 78 _ (by kernel_rfl) rfl rfl
      have hy_ := hk_.want 28 _ 78 true rfl rfl hg_
      have hx_ := hk_.ext
      clear hk_
      refine flow_want rfl hy_ ?_
      unfold gives
      have hc_ : ∀ v, a_.eval (.const v) = v := fun _ => rfl
      have hn_ : ∀ f, a_.eval (.func f) = .func (.func f) #[] #[] := fun _ => rfl
      clear hy_ hg_
      have hcell := (hx_.cell (p := ⟨b, off, none⟩) hbB).trans hcell0
      generalize a_.eval = ρ_ at *
      go_simp
      exact ⟨Below.refl _ _, rfl⟩
    refine allFrom_cons ?_ ?_
    · intro a_ w_ hk_
      have h81 : a_.eval (.tmp 81) = (.slice Ax 1 cx) := hk_.got 31 81 _ (by kernel_rfl) rfl rfl
      have hg_ : a_.eval (.tmp 78) = .bool true := hk_.got 28 78 _ (by kernel_rfl) rfl rfl
      have hy_ := hk_.want 28 _ 78 true rfl rfl hg_
      have hx_ := hk_.ext
      clear hk_
      refine flow_want rfl hy_ ?_
      unfold gives
      have hc_ : ∀ v, a_.eval (.const v) = v := fun _ => rfl
      have hn_ : ∀ f, a_.eval (.func f) = .func (.func f) #[] #[] := fun _ => rfl
      clear hy_ hg_
      have hcv : (convert 23 9 (.slice Ax 1 cx)).run Try.prog w_ = .ok (.string ⟨#[97]⟩) w_ := convT cx (HR1.out.below hx_)
      generalize a_.eval = ρ_ at *
      go_simp
      exact ⟨Below.refl _ _, rfl⟩
    refine allFrom_cons ?_ ?_
    · intro a_ w_ hk_
      have h82 : a_.eval (.tmp 82) = (.string ⟨#[97]⟩) := hk_.got 32 82 _ (by kernel_rfl) rfl rfl
      have hg_ : a_.eval (.tmp 78) = .bool true := hk_.got 28 78 _ (by kernel_rfl) rfl rfl
      have hy_ := hk_.want 28 _ 78 true rfl rfl hg_
      have hx_ := hk_.ext
      clear hk_
      refine flow_want rfl hy_ ?_
      unfold gives
      have hc_ : ∀ v, a_.eval (.const v) = v := fun _ => rfl
      have hn_ : ∀ f, a_.eval (.func f) = .func (.func f) #[] #[] := fun _ => rfl
      clear hy_ hg_
      generalize a_.eval = ρ_ at *
      go_simp
      exact ⟨Below.refl _ _, rfl⟩
    refine allFrom_cons ?_ ?_
    · intro a_ w_ hk_
      have h78 : a_.eval (.tmp 78) = (.bool true) := hk_.got 28 78 _ (by kernel_rfl) rfl rfl
      have h83 : a_.eval (.tmp 83) = (.bool true) := hk_.got 33 83 _ (by kernel_rfl) rfl rfl
      have hx_ := hk_.ext
      clear hk_
      refine flow_plain rfl ?_
      exact gives_pick rfl h78 ⟨Below.refl _ _, h83⟩
    refine allFrom_cons ?_ ?_
    · intro a_ w_ hk_
      have h84 : a_.eval (.tmp 84) = (.bool true) := hk_.got 34 84 _ (by kernel_rfl) rfl rfl
      have hx_ := hk_.ext
      clear hk_
      refine flow_plain rfl ?_
      exact gives_move rfl ⟨Below.refl _ _, h84⟩
    refine allFrom_cons ?_ ?_
    · intro a_ w_ hk_
      have h9 : a_.eval (.tmp 9) = .pointer (some ⟨gm, 0, none⟩) := hk_.old 9 (by kernel_rfl)
      have hg_ : a_.eval (.tmp 85) = .bool true := hk_.got 35 85 _ (by kernel_rfl) rfl rfl
      have hy_ := hk_.want 35 _ 85 true rfl rfl hg_
      have hx_ := hk_.ext
      clear hk_
      refine flow_want rfl hy_ ?_
      exact gives_move rfl ⟨Below.refl _ _, h9⟩
    refine allFrom_cons ?_ ?_
    · intro a_ w_ hk_
      have h86 : a_.eval (.tmp 86) = (.pointer (some ⟨gm, 0, none⟩)) := hk_.got 36 86 _ (by kernel_rfl) rfl rfl
      have hg_ : a_.eval (.tmp 85) = .bool true := hk_.got 35 85 _ (by kernel_rfl) rfl rfl
      have hy_ := hk_.want 35 _ 85 true rfl rfl hg_
      have hx_ := hk_.ext
      clear hk_
      refine flow_want rfl hy_ ?_
      unfold gives
      have hc_ : ∀ v, a_.eval (.const v) = v := fun _ => rfl
      have hn_ : ∀ f, a_.eval (.func f) = .func (.func f) #[] #[] := fun _ => rfl
      clear hy_ hg_
      generalize a_.eval = ρ_ at *
      go_simp
      exact (aFree w_ (HH12.out.log.below hx_ hb012.size) HH12.out.size).mono fun e w' ⟨h1, h2⟩ => ⟨_, h1, h2, by rw [HFR.out]; rfl⟩
    refine allFrom_cons ?_ ?_
    · intro a_ w_ hk_
      have h87 : a_.eval (.tmp 87) = (.int .i64 759) := hk_.got 37 87 _ (by kernel_rfl) rfl rfl
      have hg_ : a_.eval (.tmp 85) = .bool true := hk_.got 35 85 _ (by kernel_rfl) rfl rfl
      have hy_ := hk_.want 35 _ 85 true rfl rfl hg_
      have hx_ := hk_.ext
      clear hk_
      refine flow_want rfl hy_ ?_
      unfold gives
      have hc_ : ∀ v, a_.eval (.const v) = v := fun _ => rfl
      have hn_ : ∀ f, a_.eval (.func f) = .func (.func f) #[] #[] := fun _ => rfl
      clear hy_ hg_
      generalize a_.eval = ρ_ at *
      go_simp
      exact ⟨Below.refl _ _, rfl⟩
    refine allFrom_cons ?_ ?_
    · intro a_ w_ hk_
      have h85 : a_.eval (.tmp 85) = (.bool true) := hk_.got 35 85 _ (by kernel_rfl) rfl rfl
      have h88 : a_.eval (.tmp 88) = (.bool true) := hk_.got 38 88 _ (by kernel_rfl) rfl rfl
      have hx_ := hk_.ext
      clear hk_
      refine flow_plain rfl ?_
      exact gives_pick rfl h85 ⟨Below.refl _ _, h88⟩
    refine allFrom_cons ?_ ?_
    · intro a_ w_ hk_
      have h89 : a_.eval (.tmp 89) = (.bool true) := hk_.got 39 89 _ (by kernel_rfl) rfl rfl
      have hx_ := hk_.ext
      clear hk_
      refine flow_plain rfl ?_
      exact gives_move rfl ⟨Below.refl _ _, h89⟩
    refine allFrom_cons ?_ ?_
    · intro a_ w_ hk_
      have h9 : a_.eval (.tmp 9) = .pointer (some ⟨gm, 0, none⟩) := hk_.old 9 (by kernel_rfl)
      have hg_ : a_.eval (.tmp 90) = .bool true := hk_.got 40 90 _ (by kernel_rfl) rfl rfl
      have hy_ := hk_.want 40 _ 90 true rfl rfl hg_
      have hx_ := hk_.ext
      clear hk_
      refine flow_want rfl hy_ ?_
      exact gives_move rfl ⟨Below.refl _ _, h9⟩
    refine allFrom_cons ?_ ?_
    · intro a_ w_ hk_
      have h91 : a_.eval (.tmp 91) = (.pointer (some ⟨gm, 0, none⟩)) := hk_.got 41 91 _ (by kernel_rfl) rfl rfl
      have hg_ : a_.eval (.tmp 90) = .bool true := hk_.got 40 90 _ (by kernel_rfl) rfl rfl
      have hy_ := hk_.want 40 _ 90 true rfl rfl hg_
      have hx_ := hk_.ext
      clear hk_
      refine flow_want rfl hy_ ?_
      unfold gives
      have hc_ : ∀ v, a_.eval (.const v) = v := fun _ => rfl
      have hn_ : ∀ f, a_.eval (.func f) = .func (.func f) #[] #[] := fun _ => rfl
      clear hy_ hg_
      generalize a_.eval = ρ_ at *
      go_simp
      exact (aErr w_ (HH12.out.log.below hx_ hb012.size)).mono fun e w' ⟨h1, h2⟩ => ⟨_, h1, h2 ▸ Below.refl _ _, by rw [HP4.out.2.2.2]; rfl⟩
    refine allFrom_cons ?_ ?_
    · intro a_ w_ hk_
      have h92 : a_.eval (.tmp 92) = (.int .i64 0) := hk_.got 42 92 _ (by kernel_rfl) rfl rfl
      have hg_ : a_.eval (.tmp 90) = .bool true := hk_.got 40 90 _ (by kernel_rfl) rfl rfl
      have hy_ := hk_.want 40 _ 90 true rfl rfl hg_
      have hx_ := hk_.ext
      clear hk_
      refine flow_want rfl hy_ ?_
      unfold gives
      have hc_ : ∀ v, a_.eval (.const v) = v := fun _ => rfl
      have hn_ : ∀ f, a_.eval (.func f) = .func (.func f) #[] #[] := fun _ => rfl
      clear hy_ hg_
      generalize a_.eval = ρ_ at *
      go_simp
      exact ⟨Below.refl _ _, rfl⟩
    refine allFrom_cons ?_ ?_
    · intro a_ w_ hk_
      have h90 : a_.eval (.tmp 90) = (.bool true) := hk_.got 40 90 _ (by kernel_rfl) rfl rfl
      have h93 : a_.eval (.tmp 93) = (.bool true) := hk_.got 43 93 _ (by kernel_rfl) rfl rfl
      have hx_ := hk_.ext
      clear hk_
      refine flow_plain rfl ?_
      exact gives_pick rfl h90 ⟨Below.refl _ _, h93⟩
    refine allFrom_cons ?_ ?_
    · intro a_ w_ hk_
      have h94 : a_.eval (.tmp 94) = (.bool true) := hk_.got 44 94 _ (by kernel_rfl) rfl rfl
      have hx_ := hk_.ext
      clear hk_
      refine flow_plain rfl ?_
      exact gives_assign rfl ⟨Below.refl _ _, h94⟩
    exact allFrom_nil
  intro f_ w_ hx_ hf_
  have h50 : f_ 50 = (.int .i64 0) := hf_ 0 50 _ (by decide) rfl rfl
  have h51 : f_ 51 = (.bool true) := hf_ 1 51 _ (by decide) rfl rfl
  have h52 : f_ 52 = (.bool true) := hf_ 2 52 _ (by decide) rfl rfl
  have h53 : f_ 53 = (.int .i64 0) := hf_ 3 53 _ (by decide) rfl rfl
  have h54 : f_ 54 = (.bool true) := hf_ 4 54 _ (by decide) rfl rfl
  have h55 : f_ 55 = (.bool true) := hf_ 5 55 _ (by decide) rfl rfl
  have h56 : f_ 56 = (.bool true) := hf_ 6 56 _ (by decide) rfl rfl
  have h57 : f_ 57 = (.int .i64 0) := hf_ 7 57 _ (by decide) rfl rfl
  have h58 : f_ 58 = (.bool true) := hf_ 8 58 _ (by decide) rfl rfl
  have h59 : f_ 59 = (.bool true) := hf_ 9 59 _ (by decide) rfl rfl
  have h60 : f_ 60 = (.bool true) := hf_ 10 60 _ (by decide) rfl rfl
  have h61 : f_ 61 = (.int .i64 2) := hf_ 11 61 _ (by decide) rfl rfl
  have h62 : f_ 62 = (.bool true) := hf_ 12 62 _ (by decide) rfl rfl
  have h63 : f_ 63 = (.bool true) := hf_ 13 63 _ (by decide) rfl rfl
  have h64 : f_ 64 = (.bool true) := hf_ 14 64 _ (by decide) rfl rfl
  have h65 : f_ 65 = (.pointer (some ⟨gl, 0, none⟩)) := hf_ 15 65 _ (by decide) rfl rfl
  have h66 : f_ 66 = (.int .i64 1) := hf_ 16 66 _ (by decide) rfl rfl
  have h67 : f_ 67 = (.bool true) := hf_ 17 67 _ (by decide) rfl rfl
  have h68 : f_ 68 = (.bool true) := hf_ 18 68 _ (by decide) rfl rfl
  have h69 : f_ 69 = (.bool true) := hf_ 19 69 _ (by decide) rfl rfl
  have h70 : f_ 70 = (.int .i64 0) := hf_ 20 70 _ (by decide) rfl rfl
  have h71 : f_ 71 = (.bool true) := hf_ 21 71 _ (by decide) rfl rfl
  have h72 : f_ 72 = (.bool true) := hf_ 22 72 _ (by decide) rfl rfl
  have h73 : f_ 73 = (.bool true) := hf_ 23 73 _ (by decide) rfl rfl
  have h74 : f_ 74 = (.slice (some ⟨b, off, none⟩) 1 c12) := hf_ 24 74 _ (by decide) rfl rfl
  have h75 : f_ 75 = (.int .i64 1) := hf_ 25 75 _ (by decide) rfl rfl
  have h76 : f_ 76 = (.bool true) := hf_ 26 76 _ (by decide) rfl rfl
  have h77 : f_ 77 = (.bool true) := hf_ 27 77 _ (by decide) rfl rfl
  have h78 : f_ 78 = (.bool true) := hf_ 28 78 _ (by decide) rfl rfl
  have h79 : f_ 79 = (.slice (some ⟨b, off, none⟩) 1 c12) := hf_ 29 79 _ (by decide) rfl rfl
  have h80 : f_ 80 = (.pointer (some ⟨b, off, none⟩)) := hf_ 30 80 _ (by decide) rfl rfl
  have h81 : f_ 81 = (.slice Ax 1 cx) := hf_ 31 81 _ (by decide) rfl rfl
  have h82 : f_ 82 = (.string ⟨#[97]⟩) := hf_ 32 82 _ (by decide) rfl rfl
  have h83 : f_ 83 = (.bool true) := hf_ 33 83 _ (by decide) rfl rfl
  have h84 : f_ 84 = (.bool true) := hf_ 34 84 _ (by decide) rfl rfl
  have h85 : f_ 85 = (.bool true) := hf_ 35 85 _ (by decide) rfl rfl
  have h86 : f_ 86 = (.pointer (some ⟨gm, 0, none⟩)) := hf_ 36 86 _ (by decide) rfl rfl
  have h87 : f_ 87 = (.int .i64 759) := hf_ 37 87 _ (by decide) rfl rfl
  have h88 : f_ 88 = (.bool true) := hf_ 38 88 _ (by decide) rfl rfl
  have h89 : f_ 89 = (.bool true) := hf_ 39 89 _ (by decide) rfl rfl
  have h90 : f_ 90 = (.bool true) := hf_ 40 90 _ (by decide) rfl rfl
  have h91 : f_ 91 = (.pointer (some ⟨gm, 0, none⟩)) := hf_ 41 91 _ (by decide) rfl rfl
  have h92 : f_ 92 = (.int .i64 0) := hf_ 42 92 _ (by decide) rfl rfl
  have h93 : f_ 93 = (.bool true) := hf_ 43 93 _ (by decide) rfl rfl
  have h94 : f_ 94 = (.bool true) := hf_ 44 94 _ (by decide) rfl rfl
  have h0 : f_ 0 = (.bool true) := hf_ 45 0 _ (by decide) rfl rfl
  simp only [mix, h50, h51, h52, h53, h54, h55, h56, h57, h58, h59, h60, h61, h62, h63, h64, h65, h66, h67, h68, h69, h70, h71, h72, h73, h74, h75, h76, h77, h78, h79, h80, h81, h82, h83, h84, h85, h86, h87, h88, h89, h90, h91, h92, h93, h94, h0]
  clear h50 h51 h52 h53 h54 h55 h56 h57 h58 h59 h60 h61 h62 h63 h64 h65 h66 h67 h68 h69 h70 h71 h72 h73 h74 h75 h76 h77 h78 h79 h80 h81 h82 h83 h84 h85 h86 h87 h88 h89 h90 h91 h92 h93 h94 h0
  clear hf_
  go_wp2_with fail
  exact bodyPost_ret (results_tmp rfl _ _ _) rfl ⟨rfl, bx_trans hb012 hx_⟩
end Go.Proofs.Ytlpdiamgpnmeoaa
