
/- Records: WalBig walked. -/
import Derived.Test.YtlpdiamgpnmeoaaWaAw
import Derived.OpenShut
namespace Go.Proofs.Ytlpdiamgpnmeoaa
open Go.RowKit
set_option linter.unusedVariables false
theorem sz5 : Siz1 Try.prog tU8 := siz1_of (by kernel_rfl)
theorem zrow_get {n k : Nat} (h : k < n) : (zrow n (.int .u8 0))[k]? = some (.int .u8 0) := by
  unfold zrow
  rw [Array.getElem?_replicate, if_pos h]
theorem spl_zrow {m x : Nat} (hm : 1 ≤ m) (hx : x < 256) : spl (zrow m (.int .u8 0)) (m - 1) [.int .u8 (x : Int)] = ((zer (m - 1) ++ [UInt8.ofNat x]).map cb).toArray := by
  unfold spl zrow zer
  congr 1
  rw [Array.toList_replicate, List.take_replicate, List.drop_replicate, show m - (m - 1 + [Value.int .u8 (x : Int)].length) = 0 by show m - (m - 1 + 1) = 0; omega, Nat.min_eq_left (by omega), List.map_append, List.map_replicate]
  have : (UInt8.ofNat x).toNat = x := by rw [UInt8.toNat_ofNat']; exact Nat.mod_eq_of_lt hx
  simp [cb, this]
theorem zer_rd {w W : World} {ex : List Nat} {B g n : Nat} (h : Blk w g tU8 (zrow n (.int .u8 0))) (hx : XFr ex B w W) (hn : tU8 ∉ ex) : Rd W W.heap.size (some ⟨g, 0, none⟩) ((zer n).map cb) := rd_of_row (blk_xfr h hx hn) (by rw [zer_cb])
set_option maxRecDepth 100000 in
set_option maxHeartbeats 4000000 in
theorem WalBig_walk (w : World) (le : Int) (hle : (Lit.int .u8 le).wf = true) (x : Int) (hx : (Lit.int .u8 x).wf = true) :
    Calls Try.prog 5 #[.int .u8 le, .int .u8 x] w fun e w' => e = .returned (.bool true) ∧ Below w.heap.size w w' := by
  obtain ⟨n0, n1⟩ := bounds_u8 hle
  obtain ⟨x0, x1⟩ := bounds_u8 hx
  clear hle hx
  obtain ⟨ln, rfl⟩ := Int.eq_ofNat_of_zero_le n0
  obtain ⟨xn, rfl⟩ := Int.eq_ofNat_of_zero_le x0
  obtain ⟨m, hm⟩ : ∃ m, m = 16384 - ln := ⟨_, rfl⟩
  have hmi : (16384 : Int) - (ln : Int) = (m : Int) := by omega
  have hm1 : 1 ≤ m ∧ m ≤ 16384 := by omega
  have hxn : xn < 256 := by omega
  have hmk : ∀ w : World, (Instr.makeSlice 23 (.int .i64 (m : Int)) (.int .i64 (m : Int))).run Try.prog w = .ok (.slice (some ⟨w.heap.size, 0, none⟩) m m) (w.alloc (.cells (zrow m (.int .u8 0)) tU8)) := run_mk1 elU8 .i64 .i64 m (by omega) (by omega)
  have hmk2 : ∀ w : World, (Instr.makeSlice 23 (.int .i64 16385) (.int .i64 16385)).run Try.prog w = .ok (.slice (some ⟨w.heap.size, 0, none⟩) 16385 16385) (w.alloc (.cells (zrow 16385 (.int .u8 0)) tU8)) := run_mk1 elU8 .i64 .i64 16385 (by decide) (by decide)
  have hmj : (m : Int) - 1 = ((m - 1 : Nat) : Int) := by omega
  have hml : m - 1 < m := by omega
  clear hm
  go_enter Try.func5, Try.ntmps5
  rw [hold 17]
  go_wp2_with fail
  refine (awake_any _).mono ?_
  rintro e w0 ⟨rfl, hb0⟩
  go_wp2_with fail
  refine (New_yes w0 142 (by decide) (by decide)).mono ?_
  rintro e w1 ⟨g, rfl, hd1, hb1⟩
  go_wp2_with fail
  refine (cOpen w1 hd1 hb1.size (by decide) rfl rfl (new_dur 142 (by omega))).mono ?_
  rintro e w2 ⟨gl, rfl, hh2, hb2⟩
  rw [show sizeD (newD 142) = 70 from rfl] at hh2
  have hb02 := bx_trans hb1 hb2
  obtain ⟨D0, hD0⟩ : ∃ D0, D0 = newD 142 := ⟨_, rfl⟩
  rw [← hD0] at hh2
  have q0 : D0.fails = -1 ∧ D0.n = 142 ∧ D0.loose.length = 0 := by rw [hD0]; exact ⟨rfl, rfl, rfl⟩
  obtain ⟨L0, hL0⟩ : ∃ L0 : LS, L0 = { size := 70, turn := 0, area := 0, b := framL [], rows := [], sure := ([] : List (List UInt8)).length, e := 0 } := ⟨_, rfl⟩
  rw [← hL0] at hh2
  have p0 : L0.size = 70 ∧ L0.turn = 0 ∧ L0.rows = [] ∧ L0.b.length = 0 := by rw [hL0]; exact ⟨rfl, rfl, rfl, rfl⟩
  clear hD0 hL0 hd1
  have hbz : Blk (w2.alloc (.cells (zrow m (.int .u8 0)) tU8)) w2.heap.size tU8 (zrow m (.int .u8 0)) := Blk.new _ _ _
  have hsz : m - 1 < (zrow m (.int .u8 0)).size := by unfold zrow; rw [Array.size_replicate]; omega
  have HSP := hid (spl_zrow hm1.1 hxn)
  have hb23 : Below w2.heap.size w2 (w2.alloc (.cells (zrow m (.int .u8 0)) tU8)) := bx_alloc (Below.refl _ _) _
  have hl3 : w2.heap.size < (w2.alloc (.cells (zrow m (.int .u8 0)) tU8)).heap.size := by simp
  go_wp2_with ((with_reducible refine wpAtC ?_); refine wpList_store1 rfl tU8 _ _ rfl w2.heap.size (m - 1) rfl _ rfl sz5 rfl hbz hsz ?_; intro w4 hp4; simp only [Act.put])
  have hx4 : Blk w4 w2.heap.size tU8 (spl (zrow m (.int .u8 0)) (m - 1) [.int .u8 (xn : Int)]) := hp4.blk
  rw [HSP.out] at hx4
  have hb24 : Below w2.heap.size w2 w4 := hb23.trans (hp4.below (Nat.le_refl _))
  have hb04 := bx_trans hb02 hb24
  have hh4 := hh2.below hb24 hb02.size
  obtain ⟨gx, hgx⟩ : ∃ gx, gx = w2.heap.size := ⟨_, rfl⟩
  rw [← hgx] at hx4 ⊢
  obtain ⟨X, hX⟩ : ∃ X, X = zer (m - 1) ++ [UInt8.ofNat xn] := ⟨_, rfl⟩
  rw [← hX] at hx4
  have hXl : X.length = m := by rw [hX, List.length_append, zer_len]; show m - 1 + 1 = m; omega
  have hXg : (X.map cb)[m - 1]? = some (.int .u8 (xn : Int)) := by
    have hu : (UInt8.ofNat xn).toNat = xn := by rw [UInt8.toNat_ofNat']; exact Nat.mod_eq_of_lt hxn
    rw [hX, List.map_append, List.getElem?_append_right (by rw [List.length_map, zer_len]; exact Nat.le_refl _), List.length_map, zer_len, Nat.sub_self]
    show some (cb (UInt8.ofNat xn)) = _
    unfold cb
    rw [hu]
  have HX4 := hid hx4
  have HH4 := hid hh4
  have HXL := hid hXl
  have HXG := hid hXg
  clear hX hXl hXg hx4 hh4 hh2 HSP hp4 hbz hb23 hgx hsz hl3 hmk
  have ha1 := cAppend w4 HH4.out q0.1 hb04.size (by rw [p0.1]; omega) (b := X) (c := m) (A := some ⟨gx, 0, none⟩) (fun W hx => rd_of_row (blk_xfr HX4.out hx (by decide)) rfl) (by rw [HXL.out]; exact Nat.le_refl _) (by rw [HXL.out]; omega) (by rw [p0.1, p0.2.2.2, HXL.out]; omega)
  rw [HXL.out] at ha1
  refine ha1.mono ?_
  clear ha1
  rintro e w5 ⟨rfl, D1, hh5, r1, r2, r3, hx5⟩
  have hb05 := hb04.trans hx5.below
  have hx5k := blk_xfr HX4.out hx5 (by decide)
  obtain ⟨L1, hL1⟩ : ∃ L1 : LS, L1 = { L0 with b := L0.b ++ frameL X, rows := L0.rows ++ [X] } := ⟨_, rfl⟩
  rw [← hL1] at hh5
  have p1 : L1.size = 70 ∧ L1.turn = 0 ∧ L1.rows = [X] := by rw [hL1]; exact ⟨p0.1, p0.2.1, by show L0.rows ++ [X] = _; rw [p0.2.2.1]; rfl⟩
  have hlo1 : D1.loose.length ≤ 70 := by have : L0.size = 70 := p0.1; omega
  have hzz : Blk (w5.alloc (.cells (zrow 16385 (.int .u8 0)) tU8)) w5.heap.size tU8 (zrow 16385 (.int .u8 0)) := Blk.new _ _ _
  have hb56 : Below w5.heap.size w5 (w5.alloc (.cells (zrow 16385 (.int .u8 0)) tU8)) := bx_alloc (Below.refl _ _) _
  have hh6 := hh5.below hb56 hb05.size
  have hb06 := bx_trans hb05 hb56
  have hx6k := hx5k.below hb56 hx5k.lt
  have ha2 := cAppendNo _ hh6 hb06.size (by rw [p1.1]; omega) (b := zer 16385) (c := 16385) (fun W hx => zer_rd hzz hx (by decide)) (by rw [zer_len]; exact Nat.le_refl _) (by rw [zer_len]; decide) (.inl (by rw [zer_len]; decide))
  rw [zer_len, if_pos (by decide)] at ha2
  have HA2 := hid ha2
  have HX6 := hid hx6k
  clear hL1 ha2 hzz hh6 hh5 hx5k hx6k hx5 r3 HX4 HH4
  go_wp2_with fail
  refine HA2.out.mono ?_
  rintro e w7 ⟨rfl, hh7, hx7⟩
  have hb07 := hb06.trans hx7.below
  have hx7k := blk_xfr HX6.out hx7 (by decide)
  have hzz : Blk ((w7.alloc (.cells (zrow 16385 (.int .u8 0)) tU8)).alloc (.cells #[.slice (some ⟨w7.heap.size, 0, none⟩) 16385 16385] tBy)) w7.heap.size tU8 (zrow 16385 (.int .u8 0)) := (Blk.new _ _ _).alloc _
  have hzy : Blk ((w7.alloc (.cells (zrow 16385 (.int .u8 0)) tU8)).alloc (.cells #[.slice (some ⟨w7.heap.size, 0, none⟩) 16385 16385] tBy)) (w7.heap.size + 1) tBy #[.slice (some ⟨w7.heap.size, 0, none⟩) 16385 16385] := by
    have := Blk.new (w7.alloc (.cells (zrow 16385 (.int .u8 0)) tU8)) tBy #[.slice (some ⟨w7.heap.size, 0, none⟩) 16385 16385]
    rwa [World.size_alloc] at this
  have hb78 : Below w7.heap.size w7 ((w7.alloc (.cells (zrow 16385 (.int .u8 0)) tU8)).alloc (.cells #[.slice (some ⟨w7.heap.size, 0, none⟩) 16385 16385] tBy)) := bx_alloc (bx_alloc (Below.refl _ _) _) _
  have hh8 := hh7.below hb78 hb07.size
  have hb08 := bx_trans hb07 hb78
  have hx8k := hx7k.below hb78 hx7k.lt
  obtain ⟨w8, hw8⟩ : ∃ w8, w8 = (w7.alloc (.cells (zrow 16385 (.int .u8 0)) tU8)).alloc (.cells #[.slice (some ⟨w7.heap.size, 0, none⟩) 16385 16385] tBy) := ⟨_, rfl⟩
  rw [← hw8] at hzz hzy hh8 hb08 hx8k
  have ha3 := Compact_any w8 hh8.log hb08.size hh8.size (by rw [p1.1]; omega) (by rw [p1.2.1]; decide) (A := some ⟨w7.heap.size + 1, 0, none⟩) (c := 1) (rs := [zer 16385]) (fun W hx => by
    refine .inr ⟨w7.heap.size + 1, 0, rfl, (blk_xfr hzy hx (by decide)).lt, fun i l hl => ?_⟩
    cases i with
    | zero =>
      injection hl with hl
      subst hl
      refine ⟨_, (blk_xfr hzy hx (by decide)).cell 0, some ⟨w7.heap.size, 0, none⟩, 16385, ?_, ?_, zer_rd hzz hx (by decide)⟩
      · rw [zer_len]; rfl
      · rw [zer_len]; exact Nat.le_refl _
    | succ i => cases hl) (by show 1 ≤ 100; omega) (by intro r hr; simp at hr; subst hr; rw [zer_len]; decide)
  have hcm : cmpS D1 L1 [zer 16385] = (13, D1, L1) := by
    unfold cmpS
    rw [if_neg (fun hh => hh hh8.inv.e), if_pos ⟨_, List.mem_singleton.2 rfl, by rw [zer_len]; decide⟩]
  rw [hcm] at ha3
  rw [hw8] at ha3
  have HA3 := hid ha3
  have HI := hid hh8.inv
  have HX8 := hid hx8k
  rw [hw8] at hb08
  clear ha3 hcm hzz hzy hh8 hh7 hx7k hx8k hx7 HX6 HA2
  go_wp2_with fail
  refine HA3.out.mono ?_
  rintro e w9 ⟨rfl, hal9, hx9⟩
  have hb09 := hb08.trans hx9.below
  have hx8k := HX8.out
  rw [hw8] at hx8k
  have hx9k := blk_xfr hx8k hx9 (by decide)
  have hh9 : Has w9 w0.heap.size gl g D1 L1 [] := ⟨hal9, HI.out⟩
  have HX9 := hid hx9k
  have hcs := cSync w9 hh9 r1 hb09.size (by omega) (by rw [p1.2.1]; decide)
  have HCS := hid hcs
  clear hcs hh9 hal9 hx8k hx9k hx9 HA3 HI HX8 hw8
  go_wp2_with fail
  refine HCS.out.mono ?_
  rintro e w10 ⟨rfl, D2, L2, hh10, s1, s2, s3, s4, s5, s6, s7, hx10⟩
  have hb010 := hb09.trans hx10.below
  rw [p1.2.2] at hh10
  have hx10k := blk_xfr HX9.out hx10 (by decide)
  have HH10 := hid hh10
  have HX10 := hid hx10k
  have hD2 : D2.n = 142 := by omega
  clear hh10 hx10k hx10 HCS HX9 s1 s2 s3 s4 s7
  go_wp2_with fail
  refine (Crash_any w10 (front := []) HH10.out.disk (Kp.of_out (B' := w10.heap.size) (Rd.nil _ _ _) (Out.nil _)) (Nat.le_refl _) (Nat.zero_le _)).mono ?_
  rintro e w11 ⟨rfl, hd11, hf11⟩
  have hb011 := hb010.trans hf11.below
  have hdur := HH10.out.inv.crash []
  rw [HH10.out.inv.size] at hdur
  have hdur2 : Dur (crashD D2 []).good (sizeD (crashD D2 [])) L2.turn L2.area [X] := hdur
  have hx11k := hf11.keep _ _ _ _ HX10.out (by decide) (by decide)
  have HDU := hid hdur2
  have HD11 := hid hd11
  have HX11 := hid hx11k
  clear hdur hdur2 hd11 hx11k hf11 HH10 HX10
  go_wp2_with fail
  refine (cOpen w11 HD11.out hb011.size (by show 4 ≤ D2.n; omega) rfl rfl HDU.out).mono ?_
  rintro e w12 ⟨gm, rfl, hh12, hb12⟩
  have hb012 := bx_trans hb011 hb12
  have hx12k := hb12.block gx (Array.getElem?_eq_some_iff.1 HX11.out).1
  have hx12k2 := hx12k.trans HX11.out
  obtain ⟨L4, hL4⟩ : ∃ L4 : LS, L4 = { size := sizeD (crashD D2 []), turn := L2.turn, area := L2.area, b := framL [X], rows := [X], sure := [X].length, e := 0 } := ⟨_, rfl⟩
  rw [← hL4] at hh12
  have p4 : L4.rows = [X] := by rw [hL4]
  clear hL4 hx12k
  go_wp2_with fail
  refine (aRecords w12 hh12.log hh12.size).mono ?_
  rintro e w13 ⟨v13, vs13, rfl, hro13, hb13⟩
  rw [p4] at hro13
  have hb013 := bx_trans hb012 hb13
  obtain ⟨A13, c13, rfl, _, _, hbb⟩ := hro13.bb
  obtain ⟨b, off, Ax, cx, rfl, hbB, hcell, hlc, hrx⟩ := hbb.at_ (k := 0) (by show 0 < 1; omega)
  have hrx1 : Rd w13 w13.heap.size Ax (X.map cb) := hrx
  obtain ⟨b2, off2, rfl, hb2B, hc2⟩ := hrx1.at_ (k := m - 1) (by rw [List.length_map, HXL.out]; omega)
  have hcb : w13.cell? ⟨b2, off2 + (m - 1), none⟩ = some (.int .u8 (xn : Int)) := hc2 (m - 1) _ HXG.out
  have hcell0 : w13.cell? ⟨b, off, none⟩ = some (.slice (some ⟨b2, off2, none⟩) m cx) := by
    have : w13.cell? ⟨b, off + 0, none⟩ = some (.slice (some ⟨b2, off2, none⟩) X.length cx) := hcell
    rw [HXL.out] at this
    exact this
  clear hcell hrx hrx1 hc2 hbb hro13 hh12
  go_wp2_with fail
  refine wp_hold (wp_region_lit ?_)
  refine wp_flowSE [0, 1, 3, 7, 15, 31, 63, 127, 255, 511, 1023, 2047, 4095, 8191, 16383, 32767, 65535, 131071, 262143, 524287, 1048575, 2097151, 4194303, 8388607, 16777215, 33554431, 67108863, 134217727, 268435455, 536870911, 1073741823, 2147483647, 4294967295, 8589934591, 17179869183, 34359738367, 68719476735, 137438953471, 274877906943, 549755813887, 1099511627775, 2199023255551, 4398046511103, 8796093022207, 17592186044415] 45 [false, false, false, false, true, false, false, false, false, false, false, false, false, false, false, false, false, false, false, false, false, false, false, false, false, false, false, false, false, false, false, false, false, false, false, false, false, false, false, false, false, false, false, false, false, false, false, false, false, false, false, false, false, false, false, false, false, false, false, false, false, false, false, true, true, true, true, true, true, true, true, true, true, true, true, true, true, true, true, true, true, true, true, true, true, true, true, true, true, true, true, true, true, true, true, true, true, true, true, true, true, true, true, true, true, true, true] (by kernel_rfl) (by kernel_rfl) (by kernel_rfl) [FP.eq (.int .i64 0), FP.eq (.bool true), FP.eq (.bool true), FP.eq (.int .i64 13), FP.eq (.bool true), FP.eq (.bool true), FP.eq (.bool true), FP.eq (.int .i64 13), FP.eq (.bool true), FP.eq (.bool true), FP.eq (.bool true), FP.eq (.int .i64 0), FP.eq (.bool true), FP.eq (.bool true), FP.eq (.bool true), FP.eq (.int .i64 0), FP.eq (.bool true), FP.eq (.bool true), FP.eq (.bool true), FP.eq (.slice (some ⟨b, off, none⟩) 1 c13), FP.eq (.int .i64 1), FP.eq (.bool true), FP.eq (.bool true), FP.eq (.bool true), FP.eq (.slice (some ⟨b, off, none⟩) 1 c13), FP.eq (.pointer (some ⟨b, off, none⟩)), FP.eq (.slice (some ⟨b2, off2, none⟩) m cx), FP.eq (.int .i64 (m : Int)), FP.eq (.slice (some ⟨gx, 0, none⟩) m m), FP.eq (.int .i64 (m : Int)), FP.eq (.bool true), FP.eq (.bool true), FP.eq (.bool true), FP.eq (.slice (some ⟨b, off, none⟩) 1 c13), FP.eq (.pointer (some ⟨b, off, none⟩)), FP.eq (.slice (some ⟨b2, off2, none⟩) m cx), FP.eq (.slice (some ⟨gx, 0, none⟩) m m), FP.eq (.int .i64 (m : Int)), FP.eq (.int .i64 ((m - 1 : Nat) : Int)), FP.eq (.pointer (some ⟨b2, off2 + (m - 1), none⟩)), FP.eq (.int .u8 (xn : Int)), FP.eq (.int .u8 (xn : Int)), FP.eq (.bool true), FP.eq (.bool true), FP.eq (.bool true)] ?_ ?_
  · refine allFrom_cons ?_ ?_
    · intro a_ w_ hk_
      have h11 : a_.eval (.tmp 11) = .int .i64 0 := hk_.old 11 (by kernel_rfl)
      have hx_ := hk_.ext
      clear hk_
      refine flow_plain rfl ?_
      exact gives_move rfl ⟨Below.refl _ _, h11⟩
    refine allFrom_cons ?_ ?_
    · intro a_ w_ hk_
      have h63 : a_.eval (.tmp 63) = (.int .i64 0) := hk_.got 0 63 _ (by kernel_rfl) rfl rfl
      have hx_ := hk_.ext
      clear hk_
      refine flow_plain rfl ?_
      unfold gives
      have hc_ : ∀ v, a_.eval (.const v) = v := fun _ => rfl
      have hn_ : ∀ f, a_.eval (.func f) = .func (.func f) #[] #[] := fun _ => rfl
      generalize a_.eval = ρ_ at *
      go_simp
      exact ⟨Below.refl _ _, rfl⟩
    refine allFrom_cons ?_ ?_
    · intro a_ w_ hk_
      have h64 : a_.eval (.tmp 64) = (.bool true) := hk_.got 1 64 _ (by kernel_rfl) rfl rfl
      have hx_ := hk_.ext
      clear hk_
      refine flow_plain rfl ?_
      exact gives_move rfl ⟨Below.refl _ _, h64⟩
    refine allFrom_cons ?_ ?_
    · intro a_ w_ hk_
      have h12 : a_.eval (.tmp 12) = .int .i64 13 := hk_.old 12 (by kernel_rfl)
      have hg_ : a_.eval (.tmp 65) = .bool true := hk_.got 2 65 _ (by kernel_rfl) rfl rfl
      have hy_ := hk_.want 2 _ 65 true rfl rfl hg_
      have hx_ := hk_.ext
      clear hk_
      refine flow_want rfl hy_ ?_
      exact gives_move rfl ⟨Below.refl _ _, h12⟩
    refine allFrom_cons ?_ ?_
    · intro a_ w_ hk_
      have h66 : a_.eval (.tmp 66) = (.int .i64 13) := hk_.got 3 66 _ (by kernel_rfl) rfl rfl
      have hg_ : a_.eval (.tmp 65) = .bool true := hk_.got 2 65 _ (by kernel_rfl) rfl rfl
      have hy_ := hk_.want 2 _ 65 true rfl rfl hg_
      have hx_ := hk_.ext
      clear hk_
      refine flow_want rfl hy_ ?_
      unfold gives
      have hc_ : ∀ v, a_.eval (.const v) = v := fun _ => rfl
      have hn_ : ∀ f, a_.eval (.func f) = .func (.func f) #[] #[] := fun _ => rfl
      clear hy_ hg_
      generalize a_.eval = ρ_ at *
      go_simp
      exact ⟨Below.refl _ _, rfl⟩
    refine allFrom_cons ?_ ?_
    · intro a_ w_ hk_
      have h65 : a_.eval (.tmp 65) = (.bool true) := hk_.got 2 65 _ (by kernel_rfl) rfl rfl
      have h67 : a_.eval (.tmp 67) = (.bool true) := hk_.got 4 67 _ (by kernel_rfl) rfl rfl
      have hx_ := hk_.ext
      clear hk_
      refine flow_plain rfl ?_
      exact gives_pick rfl h65 ⟨Below.refl _ _, h67⟩
    refine allFrom_cons ?_ ?_
    · intro a_ w_ hk_
      have h68 : a_.eval (.tmp 68) = (.bool true) := hk_.got 5 68 _ (by kernel_rfl) rfl rfl
      have hx_ := hk_.ext
      clear hk_
      refine flow_plain rfl ?_
      exact gives_move rfl ⟨Below.refl _ _, h68⟩
    refine allFrom_cons ?_ ?_
    · intro a_ w_ hk_
      have h13 : a_.eval (.tmp 13) = .int .i64 13 := hk_.old 13 (by kernel_rfl)
      have hg_ : a_.eval (.tmp 69) = .bool true := hk_.got 6 69 _ (by kernel_rfl) rfl rfl
      have hy_ := hk_.want 6 _ 69 true rfl rfl hg_
      have hx_ := hk_.ext
      clear hk_
      refine flow_want rfl hy_ ?_
      exact gives_move rfl ⟨Below.refl _ _, h13⟩
    refine allFrom_cons ?_ ?_
    · intro a_ w_ hk_
      have h70 : a_.eval (.tmp 70) = (.int .i64 13) := hk_.got 7 70 _ (by kernel_rfl) rfl rfl
      have hg_ : a_.eval (.tmp 69) = .bool true := hk_.got 6 69 _ (by kernel_rfl) rfl rfl
      have hy_ := hk_.want 6 _ 69 true rfl rfl hg_
      have hx_ := hk_.ext
      clear hk_
      refine flow_want rfl hy_ ?_
      unfold gives
      have hc_ : ∀ v, a_.eval (.const v) = v := fun _ => rfl
      have hn_ : ∀ f, a_.eval (.func f) = .func (.func f) #[] #[] := fun _ => rfl
      clear hy_ hg_
      generalize a_.eval = ρ_ at *
      go_simp
      exact ⟨Below.refl _ _, rfl⟩
    refine allFrom_cons ?_ ?_
    · intro a_ w_ hk_
      have h69 : a_.eval (.tmp 69) = (.bool true) := hk_.got 6 69 _ (by kernel_rfl) rfl rfl
      have h71 : a_.eval (.tmp 71) = (.bool true) := hk_.got 8 71 _ (by kernel_rfl) rfl rfl
      have hx_ := hk_.ext
      clear hk_
      refine flow_plain rfl ?_
      exact gives_pick rfl h69 ⟨Below.refl _ _, h71⟩
    refine allFrom_cons ?_ ?_
    · intro a_ w_ hk_
      have h72 : a_.eval (.tmp 72) = (.bool true) := hk_.got 9 72 _ (by kernel_rfl) rfl rfl
      have hx_ := hk_.ext
      clear hk_
      refine flow_plain rfl ?_
      exact gives_move rfl ⟨Below.refl _ _, h72⟩
    refine allFrom_cons ?_ ?_
    · intro a_ w_ hk_
      have h14 : a_.eval (.tmp 14) = .int .i64 0 := hk_.old 14 (by kernel_rfl)
      have hg_ : a_.eval (.tmp 73) = .bool true := hk_.got 10 73 _ (by kernel_rfl) rfl rfl
      have hy_ := hk_.want 10 _ 73 true rfl rfl hg_
      have hx_ := hk_.ext
      clear hk_
      refine flow_want rfl hy_ ?_
      exact gives_move rfl ⟨Below.refl _ _, h14⟩
    refine allFrom_cons ?_ ?_
    · intro a_ w_ hk_
      have h74 : a_.eval (.tmp 74) = (.int .i64 0) := hk_.got 11 74 _ (by kernel_rfl) rfl rfl
      have hg_ : a_.eval (.tmp 73) = .bool true := hk_.got 10 73 _ (by kernel_rfl) rfl rfl
      have hy_ := hk_.want 10 _ 73 true rfl rfl hg_
      have hx_ := hk_.ext
      clear hk_
      refine flow_want rfl hy_ ?_
      unfold gives
      have hc_ : ∀ v, a_.eval (.const v) = v := fun _ => rfl
      have hn_ : ∀ f, a_.eval (.func f) = .func (.func f) #[] #[] := fun _ => rfl
      clear hy_ hg_
      generalize a_.eval = ρ_ at *
      go_simp
      exact ⟨Below.refl _ _, rfl⟩
    refine allFrom_cons ?_ ?_
    · intro a_ w_ hk_
      have h73 : a_.eval (.tmp 73) = (.bool true) := hk_.got 10 73 _ (by kernel_rfl) rfl rfl
      have h75 : a_.eval (.tmp 75) = (.bool true) := hk_.got 12 75 _ (by kernel_rfl) rfl rfl
      have hx_ := hk_.ext
      clear hk_
      refine flow_plain rfl ?_
      exact gives_pick rfl h73 ⟨Below.refl _ _, h75⟩
    refine allFrom_cons ?_ ?_
    · intro a_ w_ hk_
      have h76 : a_.eval (.tmp 76) = (.bool true) := hk_.got 13 76 _ (by kernel_rfl) rfl rfl
      have hx_ := hk_.ext
      clear hk_
      refine flow_plain rfl ?_
      exact gives_move rfl ⟨Below.refl _ _, h76⟩
    refine allFrom_cons ?_ ?_
    · intro a_ w_ hk_
      have h16 : a_.eval (.tmp 16) = .int .i64 0 := hk_.old 16 (by kernel_rfl)
      have hg_ : a_.eval (.tmp 77) = .bool true := hk_.got 14 77 _ (by kernel_rfl) rfl rfl
      have hy_ := hk_.want 14 _ 77 true rfl rfl hg_
      have hx_ := hk_.ext
      clear hk_
      refine flow_want rfl hy_ ?_
      exact gives_move rfl ⟨Below.refl _ _, h16⟩
    refine allFrom_cons ?_ ?_
    · intro a_ w_ hk_
      have h78 : a_.eval (.tmp 78) = (.int .i64 0) := hk_.got 15 78 _ (by kernel_rfl) rfl rfl
      have hg_ : a_.eval (.tmp 77) = .bool true := hk_.got 14 77 _ (by kernel_rfl) rfl rfl
      have hy_ := hk_.want 14 _ 77 true rfl rfl hg_
      have hx_ := hk_.ext
      clear hk_
      refine flow_want rfl hy_ ?_
      unfold gives
      have hc_ : ∀ v, a_.eval (.const v) = v := fun _ => rfl
      have hn_ : ∀ f, a_.eval (.func f) = .func (.func f) #[] #[] := fun _ => rfl
      clear hy_ hg_
      generalize a_.eval = ρ_ at *
      go_simp
      exact ⟨Below.refl _ _, rfl⟩
    refine allFrom_cons ?_ ?_
    · intro a_ w_ hk_
      have h77 : a_.eval (.tmp 77) = (.bool true) := hk_.got 14 77 _ (by kernel_rfl) rfl rfl
      have h79 : a_.eval (.tmp 79) = (.bool true) := hk_.got 16 79 _ (by kernel_rfl) rfl rfl
      have hx_ := hk_.ext
      clear hk_
      refine flow_plain rfl ?_
      exact gives_pick rfl h77 ⟨Below.refl _ _, h79⟩
    refine allFrom_cons ?_ ?_
    · intro a_ w_ hk_
      have h80 : a_.eval (.tmp 80) = (.bool true) := hk_.got 17 80 _ (by kernel_rfl) rfl rfl
      have hx_ := hk_.ext
      clear hk_
      refine flow_plain rfl ?_
      exact gives_move rfl ⟨Below.refl _ _, h80⟩
    refine allFrom_cons ?_ ?_
    · intro a_ w_ hk_
      have h17 : a_.eval (.tmp 17) = .slice (some ⟨b, off, none⟩) 1 c13 := hk_.old 17 (by kernel_rfl)
      have hg_ : a_.eval (.tmp 81) = .bool true := hk_.got 18 81 _ (by kernel_rfl) rfl rfl
      have hy_ := hk_.want 18 _ 81 true rfl rfl hg_
      have hx_ := hk_.ext
      clear hk_
      refine flow_want rfl hy_ ?_
      exact gives_move rfl ⟨Below.refl _ _, h17⟩
    refine allFrom_cons ?_ ?_
    · intro a_ w_ hk_
      have h82 : a_.eval (.tmp 82) = (.slice (some ⟨b, off, none⟩) 1 c13) := hk_.got 19 82 _ (by kernel_rfl) rfl rfl
      have hg_ : a_.eval (.tmp 81) = .bool true := hk_.got 18 81 _ (by kernel_rfl) rfl rfl
      have hy_ := hk_.want 18 _ 81 true rfl rfl hg_
      have hx_ := hk_.ext
      clear hk_
      refine flow_want rfl hy_ ?_
      unfold gives
      have hc_ : ∀ v, a_.eval (.const v) = v := fun _ => rfl
      have hn_ : ∀ f, a_.eval (.func f) = .func (.func f) #[] #[] := fun _ => rfl
      clear hy_ hg_
      generalize a_.eval = ρ_ at *
      go_simp
      exact ⟨Below.refl _ _, rfl⟩
    refine allFrom_cons ?_ ?_
    · intro a_ w_ hk_
      have h83 : a_.eval (.tmp 83) = (.int .i64 1) := hk_.got 20 83 _ (by kernel_rfl) rfl rfl
      have hg_ : a_.eval (.tmp 81) = .bool true := hk_.got 18 81 _ (by kernel_rfl) rfl rfl
      have hy_ := hk_.want 18 _ 81 true rfl rfl hg_
      have hx_ := hk_.ext
      clear hk_
      refine flow_want rfl hy_ ?_
      unfold gives
      have hc_ : ∀ v, a_.eval (.const v) = v := fun _ => rfl
      have hn_ : ∀ f, a_.eval (.func f) = .func (.func f) #[] #[] := fun _ => rfl
      clear hy_ hg_
      generalize a_.eval = ρ_ at *
      go_simp
      exact ⟨Below.refl _ _, rfl⟩
    refine allFrom_cons ?_ ?_
    · intro a_ w_ hk_
      have h81 : a_.eval (.tmp 81) = (.bool true) := hk_.got 18 81 _ (by kernel_rfl) rfl rfl
      have h84 : a_.eval (.tmp 84) = (.bool true) := hk_.got 21 84 _ (by kernel_rfl) rfl rfl
      have hx_ := hk_.ext
      clear hk_
      refine flow_plain rfl ?_
      exact gives_pick rfl h81 ⟨Below.refl _ _, h84⟩
    refine allFrom_cons ?_ ?_
    · intro a_ w_ hk_
      have h85 : a_.eval (.tmp 85) = (.bool true) := hk_.got 22 85 _ (by kernel_rfl) rfl rfl
      have hx_ := hk_.ext
      clear hk_
      refine flow_plain rfl ?_
      exact gives_move rfl ⟨Below.refl _ _, h85⟩
    refine allFrom_cons ?_ ?_
    · intro a_ w_ hk_
      have h17 : a_.eval (.tmp 17) = .slice (some ⟨b, off, none⟩) 1 c13 := hk_.old 17 (by kernel_rfl)
      have hg_ : a_.eval (.tmp 86) = .bool true := hk_.got 23 86 _ (by kernel_rfl) rfl rfl
      have hy_ := hk_.want 23 _ 86 true rfl rfl hg_
      have hx_ := hk_.ext
      clear hk_
      refine flow_want rfl hy_ ?_
      exact gives_move rfl ⟨Below.refl _ _, h17⟩
    refine allFrom_cons ?_ ?_
    · intro a_ w_ hk_
      have h87 : a_.eval (.tmp 87) = (.slice (some ⟨b, off, none⟩) 1 c13) := hk_.got 24 87 _ (by kernel_rfl) rfl rfl
      have hg_ : a_.eval (.tmp 86) = .bool true := hk_.got 23 86 _ (by kernel_rfl) rfl rfl
      have hy_ := hk_.want 23 _ 86 true rfl rfl hg_
      have hx_ := hk_.ext
      clear hk_
      refine flow_want rfl hy_ ?_
      unfold gives
      have hc_ : ∀ v, a_.eval (.const v) = v := fun _ => rfl
      have hn_ : ∀ f, a_.eval (.func f) = .func (.func f) #[] #[] := fun _ => rfl
      clear hy_ hg_
      generalize a_.eval = ρ_ at *
      go_simp
      exact ⟨Below.refl _ _, rfl⟩
    refine allFrom_cons ?_ ?_
    · intro a_ w_ hk_
      have h88 : a_.eval (.tmp 88) = (.pointer (some ⟨b, off, none⟩)) := hk_.got 25 88 _ (by kernel_rfl) rfl rfl
      have hg_ : a_.eval (.tmp 86) = .bool true := hk_.got 23 86 _ (by kernel_rfl) rfl rfl
      have hy_ := hk_.want 23 _ 86 true rfl rfl hg_
      have hx_ := hk_.ext
      clear hk_
      refine flow_want rfl hy_ ?_
      unfold gives
      have hc_ : ∀ v, a_.eval (.const v) = v := fun _ => rfl
      have hn_ : ∀ f, a_.eval (.func f) = .func (.func f) #[] #[] := fun _ => rfl
      clear hy_ hg_
      have hcell := (hx_.cell (p := ⟨b, off, none⟩) hbB).trans hcell0
      generalize a_.eval = ρ_ at *
      go_simp
      exact ⟨Below.refl _ _, rfl⟩
    refine allFrom_cons ?_ ?_
    · intro a_ w_ hk_
      have h89 : a_.eval (.tmp 89) = (.slice (some ⟨b2, off2, none⟩) m cx) := hk_.got 26 89 _ (by kernel_rfl) rfl rfl
      have hg_ : a_.eval (.tmp 86) = .bool true := hk_.got 23 86 _ (by kernel_rfl) rfl rfl
      have hy_ := hk_.want 23 _ 86 true rfl rfl hg_
      have hx_ := hk_.ext
      clear hk_
      refine flow_want rfl hy_ ?_
      unfold gives
      have hc_ : ∀ v, a_.eval (.const v) = v := fun _ => rfl
      have hn_ : ∀ f, a_.eval (.func f) = .func (.func f) #[] #[] := fun _ => rfl
      clear hy_ hg_
      generalize a_.eval = ρ_ at *
      go_simp
      exact ⟨Below.refl _ _, rfl⟩
    refine allFrom_cons ?_ ?_
    · intro a_ w_ hk_
      have h10 : a_.eval (.tmp 10) = .slice (some ⟨gx, 0, none⟩) m m := hk_.old 10 (by kernel_rfl)
      have hg_ : a_.eval (.tmp 86) = .bool true := hk_.got 23 86 _ (by kernel_rfl) rfl rfl
      have hy_ := hk_.want 23 _ 86 true rfl rfl hg_
      have hx_ := hk_.ext
      clear hk_
      refine flow_want rfl hy_ ?_
      exact gives_move rfl ⟨Below.refl _ _, h10⟩
    refine allFrom_cons ?_ ?_
    · intro a_ w_ hk_
      have h91 : a_.eval (.tmp 91) = (.slice (some ⟨gx, 0, none⟩) m m) := hk_.got 28 91 _ (by kernel_rfl) rfl rfl
      have hg_ : a_.eval (.tmp 86) = .bool true := hk_.got 23 86 _ (by kernel_rfl) rfl rfl
      have hy_ := hk_.want 23 _ 86 true rfl rfl hg_
      have hx_ := hk_.ext
      clear hk_
      refine flow_want rfl hy_ ?_
      unfold gives
      have hc_ : ∀ v, a_.eval (.const v) = v := fun _ => rfl
      have hn_ : ∀ f, a_.eval (.func f) = .func (.func f) #[] #[] := fun _ => rfl
      clear hy_ hg_
      generalize a_.eval = ρ_ at *
      go_simp
      exact ⟨Below.refl _ _, rfl⟩
    refine allFrom_cons ?_ ?_
    · intro a_ w_ hk_
      have h90 : a_.eval (.tmp 90) = (.int .i64 (m : Int)) := hk_.got 27 90 _ (by kernel_rfl) rfl rfl
      have h92 : a_.eval (.tmp 92) = (.int .i64 (m : Int)) := hk_.got 29 92 _ (by kernel_rfl) rfl rfl
      have hg_ : a_.eval (.tmp 86) = .bool true := hk_.got 23 86 _ (by kernel_rfl) rfl rfl
      have hy_ := hk_.want 23 _ 86 true rfl rfl hg_
      have hx_ := hk_.ext
      clear hk_
      refine flow_want rfl hy_ ?_
      unfold gives
      have hc_ : ∀ v, a_.eval (.const v) = v := fun _ => rfl
      have hn_ : ∀ f, a_.eval (.func f) = .func (.func f) #[] #[] := fun _ => rfl
      clear hy_ hg_
      generalize a_.eval = ρ_ at *
      go_simp
      exact ⟨Below.refl _ _, rfl⟩
    refine allFrom_cons ?_ ?_
    · intro a_ w_ hk_
      have h86 : a_.eval (.tmp 86) = (.bool true) := hk_.got 23 86 _ (by kernel_rfl) rfl rfl
      have h93 : a_.eval (.tmp 93) = (.bool true) := hk_.got 30 93 _ (by kernel_rfl) rfl rfl
      have hx_ := hk_.ext
      clear hk_
      refine flow_plain rfl ?_
      exact gives_pick rfl h86 ⟨Below.refl _ _, h93⟩
    refine allFrom_cons ?_ ?_
    · intro a_ w_ hk_
      have h94 : a_.eval (.tmp 94) = (.bool true) := hk_.got 31 94 _ (by kernel_rfl) rfl rfl
      have hx_ := hk_.ext
      clear hk_
      refine flow_plain rfl ?_
      exact gives_move rfl ⟨Below.refl _ _, h94⟩
    refine allFrom_cons ?_ ?_
    · intro a_ w_ hk_
      have h17 : a_.eval (.tmp 17) = .slice (some ⟨b, off, none⟩) 1 c13 := hk_.old 17 (by kernel_rfl)
      have hg_ : a_.eval (.tmp 95) = .bool true := hk_.got 32 95 _ (by kernel_rfl) rfl rfl
      have hy_ := hk_.want 32 _ 95 true rfl rfl hg_
      have hx_ := hk_.ext
      clear hk_
      refine flow_want rfl hy_ ?_
      exact gives_move rfl ⟨Below.refl _ _, h17⟩
    refine allFrom_cons ?_ ?_
    · intro a_ w_ hk_
      have h96 : a_.eval (.tmp 96) = (.slice (some ⟨b, off, none⟩) 1 c13) := hk_.got 33 96 _ (by kernel_rfl) rfl rfl
      have hg_ : a_.eval (.tmp 95) = .bool true := hk_.got 32 95 _ (by kernel_rfl) rfl rfl
      have hy_ := hk_.want 32 _ 95 true rfl rfl hg_
      have hx_ := hk_.ext
      clear hk_
      refine flow_want rfl hy_ ?_
      unfold gives
      have hc_ : ∀ v, a_.eval (.const v) = v := fun _ => rfl
      have hn_ : ∀ f, a_.eval (.func f) = .func (.func f) #[] #[] := fun _ => rfl
      clear hy_ hg_
      generalize a_.eval = ρ_ at *
      go_simp
      exact ⟨Below.refl _ _, rfl⟩
    refine allFrom_cons ?_ ?_
    · intro a_ w_ hk_
      have h97 : a_.eval (.tmp 97) = (.pointer (some ⟨b, off, none⟩)) := hk_.got 34 97 _ (by kernel_rfl) rfl rfl
      have hg_ : a_.eval (.tmp 95) = .bool true := hk_.got 32 95 _ (by kernel_rfl) rfl rfl
      have hy_ := hk_.want 32 _ 95 true rfl rfl hg_
      have hx_ := hk_.ext
      clear hk_
      refine flow_want rfl hy_ ?_
      unfold gives
      have hc_ : ∀ v, a_.eval (.const v) = v := fun _ => rfl
      have hn_ : ∀ f, a_.eval (.func f) = .func (.func f) #[] #[] := fun _ => rfl
      clear hy_ hg_
      have hcell := (hx_.cell (p := ⟨b, off, none⟩) hbB).trans hcell0
      generalize a_.eval = ρ_ at *
      go_simp
      exact ⟨Below.refl _ _, rfl⟩
    refine allFrom_cons ?_ ?_
    · intro a_ w_ hk_
      have h10 : a_.eval (.tmp 10) = .slice (some ⟨gx, 0, none⟩) m m := hk_.old 10 (by kernel_rfl)
      have hg_ : a_.eval (.tmp 95) = .bool true := hk_.got 32 95 _ (by kernel_rfl) rfl rfl
      have hy_ := hk_.want 32 _ 95 true rfl rfl hg_
      have hx_ := hk_.ext
      clear hk_
      refine flow_want rfl hy_ ?_
      exact gives_move rfl ⟨Below.refl _ _, h10⟩
    refine allFrom_cons ?_ ?_
    · intro a_ w_ hk_
      have h99 : a_.eval (.tmp 99) = (.slice (some ⟨gx, 0, none⟩) m m) := hk_.got 36 99 _ (by kernel_rfl) rfl rfl
      have hg_ : a_.eval (.tmp 95) = .bool true := hk_.got 32 95 _ (by kernel_rfl) rfl rfl
      have hy_ := hk_.want 32 _ 95 true rfl rfl hg_
      have hx_ := hk_.ext
      clear hk_
      refine flow_want rfl hy_ ?_
      unfold gives
      have hc_ : ∀ v, a_.eval (.const v) = v := fun _ => rfl
      have hn_ : ∀ f, a_.eval (.func f) = .func (.func f) #[] #[] := fun _ => rfl
      clear hy_ hg_
      generalize a_.eval = ρ_ at *
      go_simp
      exact ⟨Below.refl _ _, rfl⟩
    refine allFrom_cons ?_ ?_
    · intro a_ w_ hk_
      have h100 : a_.eval (.tmp 100) = (.int .i64 (m : Int)) := hk_.got 37 100 _ (by kernel_rfl) rfl rfl
      have hg_ : a_.eval (.tmp 95) = .bool true := hk_.got 32 95 _ (by kernel_rfl) rfl rfl
      have hy_ := hk_.want 32 _ 95 true rfl rfl hg_
      have hx_ := hk_.ext
      clear hk_
      refine flow_want rfl hy_ ?_
      unfold gives
      have hc_ : ∀ v, a_.eval (.const v) = v := fun _ => rfl
      have hn_ : ∀ f, a_.eval (.func f) = .func (.func f) #[] #[] := fun _ => rfl
      clear hy_ hg_
      generalize a_.eval = ρ_ at *
      go_simp
      exact ⟨Below.refl _ _, congrArg (Value.int _) (i64_wrap (by omega) (by omega))⟩
    refine allFrom_cons ?_ ?_
    · intro a_ w_ hk_
      have h98 : a_.eval (.tmp 98) = (.slice (some ⟨b2, off2, none⟩) m cx) := hk_.got 35 98 _ (by kernel_rfl) rfl rfl
      have h101 : a_.eval (.tmp 101) = (.int .i64 ((m - 1 : Nat) : Int)) := hk_.got 38 101 _ (by kernel_rfl) rfl rfl
      have hg_ : a_.eval (.tmp 95) = .bool true := hk_.got 32 95 _ (by kernel_rfl) rfl rfl
      have hy_ := hk_.want 32 _ 95 true rfl rfl hg_
      have hx_ := hk_.ext
      clear hk_
      refine flow_want rfl hy_ ?_
      unfold gives
      have hc_ : ∀ v, a_.eval (.const v) = v := fun _ => rfl
      have hn_ : ∀ f, a_.eval (.func f) = .func (.func f) #[] #[] := fun _ => rfl
      clear hy_ hg_
      generalize a_.eval = ρ_ at *
      go_simp
      exact ⟨Below.refl _ _, rfl⟩
    refine allFrom_cons ?_ ?_
    · intro a_ w_ hk_
      have h102 : a_.eval (.tmp 102) = (.pointer (some ⟨b2, off2 + (m - 1), none⟩)) := hk_.got 39 102 _ (by kernel_rfl) rfl rfl
      have hg_ : a_.eval (.tmp 95) = .bool true := hk_.got 32 95 _ (by kernel_rfl) rfl rfl
      have hy_ := hk_.want 32 _ 95 true rfl rfl hg_
      have hx_ := hk_.ext
      clear hk_
      refine flow_want rfl hy_ ?_
      unfold gives
      have hc_ : ∀ v, a_.eval (.const v) = v := fun _ => rfl
      have hn_ : ∀ f, a_.eval (.func f) = .func (.func f) #[] #[] := fun _ => rfl
      clear hy_ hg_
      have hcell := (hx_.cell (p := ⟨b2, off2 + (m - 1), none⟩) hb2B).trans hcb
      generalize a_.eval = ρ_ at *
      go_simp
      exact ⟨Below.refl _ _, rfl⟩
    refine allFrom_cons ?_ ?_
    · intro a_ w_ hk_
      have h1 : a_.eval (.tmp 1) = .int .u8 (xn : Int) := hk_.old 1 (by kernel_rfl)
      have hg_ : a_.eval (.tmp 95) = .bool true := hk_.got 32 95 _ (by kernel_rfl) rfl rfl
      have hy_ := hk_.want 32 _ 95 true rfl rfl hg_
      have hx_ := hk_.ext
      clear hk_
      refine flow_want rfl hy_ ?_
      exact gives_move rfl ⟨Below.refl _ _, h1⟩
    refine allFrom_cons ?_ ?_
    · intro a_ w_ hk_
      have h103 : a_.eval (.tmp 103) = (.int .u8 (xn : Int)) := hk_.got 40 103 _ (by kernel_rfl) rfl rfl
      have h104 : a_.eval (.tmp 104) = (.int .u8 (xn : Int)) := hk_.got 41 104 _ (by kernel_rfl) rfl rfl
      have hg_ : a_.eval (.tmp 95) = .bool true := hk_.got 32 95 _ (by kernel_rfl) rfl rfl
      have hy_ := hk_.want 32 _ 95 true rfl rfl hg_
      have hx_ := hk_.ext
      clear hk_
      refine flow_want rfl hy_ ?_
      unfold gives
      have hc_ : ∀ v, a_.eval (.const v) = v := fun _ => rfl
      have hn_ : ∀ f, a_.eval (.func f) = .func (.func f) #[] #[] := fun _ => rfl
      clear hy_ hg_
      generalize a_.eval = ρ_ at *
      go_simp
      exact ⟨Below.refl _ _, rfl⟩
    refine allFrom_cons ?_ ?_
    · intro a_ w_ hk_
      have h95 : a_.eval (.tmp 95) = (.bool true) := hk_.got 32 95 _ (by kernel_rfl) rfl rfl
      have h105 : a_.eval (.tmp 105) = (.bool true) := hk_.got 42 105 _ (by kernel_rfl) rfl rfl
      have hx_ := hk_.ext
      clear hk_
      refine flow_plain rfl ?_
      exact gives_pick rfl h95 ⟨Below.refl _ _, h105⟩
    refine allFrom_cons ?_ ?_
    · intro a_ w_ hk_
      have h106 : a_.eval (.tmp 106) = (.bool true) := hk_.got 43 106 _ (by kernel_rfl) rfl rfl
      have hx_ := hk_.ext
      clear hk_
      refine flow_plain rfl ?_
      exact gives_assign rfl ⟨Below.refl _ _, h106⟩
    exact allFrom_nil
  intro f_ w_ hx_ hf_
  have h63 : f_ 63 = (.int .i64 0) := hf_ 0 63 _ (by decide) rfl rfl
  have h64 : f_ 64 = (.bool true) := hf_ 1 64 _ (by decide) rfl rfl
  have h65 : f_ 65 = (.bool true) := hf_ 2 65 _ (by decide) rfl rfl
  have h66 : f_ 66 = (.int .i64 13) := hf_ 3 66 _ (by decide) rfl rfl
  have h67 : f_ 67 = (.bool true) := hf_ 4 67 _ (by decide) rfl rfl
  have h68 : f_ 68 = (.bool true) := hf_ 5 68 _ (by decide) rfl rfl
  have h69 : f_ 69 = (.bool true) := hf_ 6 69 _ (by decide) rfl rfl
  have h70 : f_ 70 = (.int .i64 13) := hf_ 7 70 _ (by decide) rfl rfl
  have h71 : f_ 71 = (.bool true) := hf_ 8 71 _ (by decide) rfl rfl
  have h72 : f_ 72 = (.bool true) := hf_ 9 72 _ (by decide) rfl rfl
  have h73 : f_ 73 = (.bool true) := hf_ 10 73 _ (by decide) rfl rfl
  have h74 : f_ 74 = (.int .i64 0) := hf_ 11 74 _ (by decide) rfl rfl
  have h75 : f_ 75 = (.bool true) := hf_ 12 75 _ (by decide) rfl rfl
  have h76 : f_ 76 = (.bool true) := hf_ 13 76 _ (by decide) rfl rfl
  have h77 : f_ 77 = (.bool true) := hf_ 14 77 _ (by decide) rfl rfl
  have h78 : f_ 78 = (.int .i64 0) := hf_ 15 78 _ (by decide) rfl rfl
  have h79 : f_ 79 = (.bool true) := hf_ 16 79 _ (by decide) rfl rfl
  have h80 : f_ 80 = (.bool true) := hf_ 17 80 _ (by decide) rfl rfl
  have h81 : f_ 81 = (.bool true) := hf_ 18 81 _ (by decide) rfl rfl
  have h82 : f_ 82 = (.slice (some ⟨b, off, none⟩) 1 c13) := hf_ 19 82 _ (by decide) rfl rfl
  have h83 : f_ 83 = (.int .i64 1) := hf_ 20 83 _ (by decide) rfl rfl
  have h84 : f_ 84 = (.bool true) := hf_ 21 84 _ (by decide) rfl rfl
  have h85 : f_ 85 = (.bool true) := hf_ 22 85 _ (by decide) rfl rfl
  have h86 : f_ 86 = (.bool true) := hf_ 23 86 _ (by decide) rfl rfl
  have h87 : f_ 87 = (.slice (some ⟨b, off, none⟩) 1 c13) := hf_ 24 87 _ (by decide) rfl rfl
  have h88 : f_ 88 = (.pointer (some ⟨b, off, none⟩)) := hf_ 25 88 _ (by decide) rfl rfl
  have h89 : f_ 89 = (.slice (some ⟨b2, off2, none⟩) m cx) := hf_ 26 89 _ (by decide) rfl rfl
  have h90 : f_ 90 = (.int .i64 (m : Int)) := hf_ 27 90 _ (by decide) rfl rfl
  have h91 : f_ 91 = (.slice (some ⟨gx, 0, none⟩) m m) := hf_ 28 91 _ (by decide) rfl rfl
  have h92 : f_ 92 = (.int .i64 (m : Int)) := hf_ 29 92 _ (by decide) rfl rfl
  have h93 : f_ 93 = (.bool true) := hf_ 30 93 _ (by decide) rfl rfl
  have h94 : f_ 94 = (.bool true) := hf_ 31 94 _ (by decide) rfl rfl
  have h95 : f_ 95 = (.bool true) := hf_ 32 95 _ (by decide) rfl rfl
  have h96 : f_ 96 = (.slice (some ⟨b, off, none⟩) 1 c13) := hf_ 33 96 _ (by decide) rfl rfl
  have h97 : f_ 97 = (.pointer (some ⟨b, off, none⟩)) := hf_ 34 97 _ (by decide) rfl rfl
  have h98 : f_ 98 = (.slice (some ⟨b2, off2, none⟩) m cx) := hf_ 35 98 _ (by decide) rfl rfl
  have h99 : f_ 99 = (.slice (some ⟨gx, 0, none⟩) m m) := hf_ 36 99 _ (by decide) rfl rfl
  have h100 : f_ 100 = (.int .i64 (m : Int)) := hf_ 37 100 _ (by decide) rfl rfl
  have h101 : f_ 101 = (.int .i64 ((m - 1 : Nat) : Int)) := hf_ 38 101 _ (by decide) rfl rfl
  have h102 : f_ 102 = (.pointer (some ⟨b2, off2 + (m - 1), none⟩)) := hf_ 39 102 _ (by decide) rfl rfl
  have h103 : f_ 103 = (.int .u8 (xn : Int)) := hf_ 40 103 _ (by decide) rfl rfl
  have h104 : f_ 104 = (.int .u8 (xn : Int)) := hf_ 41 104 _ (by decide) rfl rfl
  have h105 : f_ 105 = (.bool true) := hf_ 42 105 _ (by decide) rfl rfl
  have h106 : f_ 106 = (.bool true) := hf_ 43 106 _ (by decide) rfl rfl
  have h4 : f_ 4 = (.bool true) := hf_ 44 4 _ (by decide) rfl rfl
  simp only [mix, h63, h64, h65, h66, h67, h68, h69, h70, h71, h72, h73, h74, h75, h76, h77, h78, h79, h80, h81, h82, h83, h84, h85, h86, h87, h88, h89, h90, h91, h92, h93, h94, h95, h96, h97, h98, h99, h100, h101, h102, h103, h104, h105, h106, h4]
  clear h63 h64 h65 h66 h67 h68 h69 h70 h71 h72 h73 h74 h75 h76 h77 h78 h79 h80 h81 h82 h83 h84 h85 h86 h87 h88 h89 h90 h91 h92 h93 h94 h95 h96 h97 h98 h99 h100 h101 h102 h103 h104 h105 h106 h4
  clear hf_
  go_wp2_with fail
  exact bodyPost_ret (results_tmp rfl _ _ _) rfl ⟨rfl, bx_trans hb0 (bx_trans hb013 hx_)⟩
end Go.Proofs.Ytlpdiamgpnmeoaa
