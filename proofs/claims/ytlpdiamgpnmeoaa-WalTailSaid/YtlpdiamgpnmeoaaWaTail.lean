
/- Records: WalTail walked. -/
import Derived.Test.YtlpdiamgpnmeoaaWaTurns
namespace Go.Proofs.Ytlpdiamgpnmeoaa
open Go.RowKit
set_option linter.unusedVariables false
/-- What the rounds of WalTail keep. -/
structure TailI (w0 : World) (g gl T : Nat) (D : DS) (L : LS) (rs all : List (List UInt8)) (m : Nat) (wr : World) : Prop where
  has : Has wr w0.heap.size gl g D L rs
  calm : D.fails = -1
  n : D.n = 200
  size : L.size = 99
  turn : L.turn ≤ T
  loose : D.loose.length ≤ m * 100
  below : Below w0.heap.size w0 wr
  rows : L.rows = all
  len : L.b.length ≤ m * 608
theorem framL_600 {ls : List (List UInt8)} (h : ∀ r ∈ ls, r.length ≤ 600) : (framL ls).length ≤ ls.length * 608 := (framL_len ls 600 h).1
theorem few_all {ls : List (List UInt8)} (h : fewB ls = true) : (framL ls).length ≤ 6080 := by
  have := (few_framL h ls.length).1
  rwa [List.take_length] at this
set_option maxRecDepth 100000 in
set_option maxHeartbeats 4000000 in
theorem WalTail_walk (w : World) (Aa : Option Addr) (ca : Nat) (ea : List (List UInt8)) (hca : ea.length ≤ ca) (hma : ca ≤ maxLen) (hsa : ∀ l ∈ ea, l.length ≤ maxLen) (hra : RdBB w w.heap.size Aa ea) (Ab : Option Addr) (cb' : Nat) (eb : List (List UInt8)) (hcb : eb.length ≤ cb') (hmb : cb' ≤ maxLen) (hsb : ∀ l ∈ eb, l.length ≤ maxLen) (hrb : RdBB w w.heap.size Ab eb)
    (Ac : Option Addr) (cc : Nat) (ec : List (List UInt8)) (hcc : ec.length ≤ cc) (hmc : cc ≤ maxLen) (hsc : ∀ l ∈ ec, l.length ≤ maxLen) (hrc : RdBB w w.heap.size Ac ec) (Af : Option Addr) (cf : Nat) (front : List UInt8) (hcf : front.length ≤ cf) (hmf : cf ≤ maxLen) (hrf : Rd w w.heap.size Af (front.map cb)) :
    Calls Try.prog 3 #[.slice Aa ea.length ca, .slice Ab eb.length cb', .slice Ac ec.length cc, .slice Af front.length cf] w fun e w' => e = .returned (.bool true) ∧ Below w.heap.size w w' := by
  have HRA := hid hra
  have HRB := hid hrb
  have HRC := hid hrc
  have HRF := hid hrf
  have HMA := hid hma
  have HMB := hid hmb
  have HMC := hid hmc
  have hmf' : front.length ≤ maxLen := Nat.le_trans hcf hmf
  have HMF := hid hmf'
  clear hra hrb hrc hrf hsa hsb hsc hma hmb hmc hmf hmf'
  go_enter Try.func3, Try.ntmps3
  rw [hold 27, hold 40]
  go_wp2_with fail
  refine (awake_any _).mono ?_
  rintro e w0 ⟨rfl, hb0⟩
  go_wp2_with fail
  refine (few_any w0 ((HRA.out.below hb0).more hb0.size) hca HMA.out).mono ?_
  rintro e w0' ⟨rfl, rfl⟩
  obtain ⟨FA, hFA⟩ : ∃ F, F = fewB ea := ⟨_, rfl⟩
  rw [← hFA]
  have HFA := hid hFA
  clear hFA
  go_wp2_with fail
  refine (few_any w0 ((HRB.out.below hb0).more hb0.size) hcb HMB.out).mono ?_
  rintro e w0' ⟨rfl, rfl⟩
  obtain ⟨FB, hFB⟩ : ∃ F, F = fewB eb := ⟨_, rfl⟩
  rw [← hFB]
  have HFB := hid hFB
  clear hFB
  go_wp2_with fail
  refine (few_any w0 ((HRC.out.below hb0).more hb0.size) hcc HMC.out).mono ?_
  rintro e w0' ⟨rfl, rfl⟩
  obtain ⟨FC, hFC⟩ : ∃ F, F = fewB ec := ⟨_, rfl⟩
  rw [← hFC]
  have HFC := hid hFC
  clear hFC
  cases FA with
  | false =>
    go_wp2_with fail
    exact bodyPost_ret (results_tmp rfl _ _ _) rfl ⟨rfl, hb0⟩
  | true =>
  cases FB with
  | false =>
    go_wp2_with fail
    exact bodyPost_ret (results_tmp rfl _ _ _) rfl ⟨rfl, hb0⟩
  | true =>
  cases FC with
  | false =>
    go_wp2_with fail
    exact bodyPost_ret (results_tmp rfl _ _ _) rfl ⟨rfl, hb0⟩
  | true =>
  by_cases hs0 : 60 < front.length
  · have hsi : (60 : Int) < (front.length : Int) := by omega
    go_wp2_with fail
    exact bodyPost_ret (results_tmp rfl _ _ _) rfl ⟨rfl, hb0⟩
  have hsi : ¬ (60 : Int) < (front.length : Int) := by omega
  have hfa := (fewB_len HFA.out.symm).1
  have hfb := (fewB_len HFB.out.symm).1
  have hfc := (fewB_len HFC.out.symm).1
  have HA6 := hid (fewB_600 HFA.out.symm)
  have HB6 := hid (fewB_600 HFB.out.symm)
  have HC6 := hid (fewB_600 HFC.out.symm)
  have HB0 := hid hb0
  have hB0 : w.heap.size ≤ w0.heap.size := hb0.size
  clear hb0
  go_wp2_with fail
  refine (New_yes w0 200 (by decide) (by decide)).mono ?_
  rintro e w1 ⟨g, rfl, hd1, hb1⟩
  go_wp2_with fail
  refine (cOpen w1 hd1 hb1.size (by decide) rfl rfl (new_dur 200 (by omega))).mono ?_
  rintro e w2 ⟨gl, rfl, hh2, hb2⟩
  rw [show sizeD (newD 200) = 99 from rfl] at hh2
  have hI0 : TailI w0 g gl 0 (newD 200) { size := 99, turn := 0, area := 0, b := framL [], rows := [], sure := ([] : List (List UInt8)).length, e := 0 } [] [] 0 w2 := ⟨hh2, rfl, rfl, rfl, Nat.le_refl _, Nat.le_refl _, bx_trans hb1 hb2, rfl, Nat.le_refl _⟩
  clear hd1 hh2 hb1 hb2
  go_wp2_with fail
  -- the first ones
  go_loopw [17] (fun v17 wr => ∃ (i : Nat) (D : DS) (L : LS), i ≤ ea.length ∧ v17 = .int .i64 (i : Int) ∧ TailI w0 g gl 0 D L [] ([] ++ ea.take i) (0 + i) wr) (fun v17 _ => ea.length - (ofInt v17).toNat)
  case atStart => exact ⟨0, _, _, Nat.zero_le _, rfl, hI0⟩
  case round =>
    obtain ⟨i, D, L, hi, rfl, hI⟩ := hrel
    rename World => wr
    clear hI0
    by_cases hlt : i < ea.length
    · have hlti : (i : Int) < (ea.length : Int) := by omega
      have hbw := HB0.out.trans (hI.below.mono hB0)
      obtain ⟨gb, off, Ax, cx, rfl, hgb, hcell, hcx, hrx⟩ := HRA.out.at_ (k := i) hlt
      have hck := (hbw.cell (p := ⟨gb, off + i, none⟩) hgb).trans hcell
      have hx6 := HA6.out ea[i] (List.getElem_mem hlt)
      obtain ⟨x, hx⟩ : ∃ x, x = ea[i] := ⟨_, rfl⟩
      have htk : ea.take (i + 1) = ea.take i ++ [x] := by rw [hx, List.take_succ_eq_append_getElem hlt]
      rw [← hx] at hck hcx hrx hx6
      have hap := cAppend wr hI.has hI.calm hI.below.size (by rw [hI.size]; have := hI.loose; omega) (b := x) (c := cx) (A := Ax) (fun W hxf => (hrx.below (hbw.trans (hxf.below.mono hB0))).more (hbw.trans (hxf.below.mono hB0)).size) hcx (by omega) (by have := hI.len; rw [hI.size]; omega)
      have HAP := hid hap
      have HI := hid hI
      have HTK := hid htk
      clear hap hI hx htk hcell hrx
      go_wp2_with fail
      refine HAP.out.mono ?_
      rintro e w3 ⟨rfl, D3, h3, c3, n3, l3, x3⟩
      go_wp2_with fail
      refine ⟨⟨i + 1, D3, _, hlt, by push_cast; rfl, ⟨h3, c3, n3.trans HI.out.n, HI.out.size, HI.out.turn, by have h1 := HI.out.loose; have h2 := HI.out.size; omega, HI.out.below.trans x3.below, ?_, ?_⟩⟩, by show ea.length - ((i : Int) + 1).toNat < ea.length - (i : Int).toNat; omega⟩
      · show L.rows ++ [x] = _
        rw [HI.out.rows, HTK.out, List.append_assoc]
      · show (L.b ++ frameL x).length ≤ _
        rw [List.length_append, frameL_len]
        have := HI.out.len
        omega
    · have hlti : ¬ (i : Int) < (ea.length : Int) := by omega
      have hia : i = ea.length := by omega
      subst hia
      rw [List.take_length, List.nil_append, Nat.zero_add] at hI
      have hcs := cSync wr hI.has hI.calm hI.below.size (by have := hI.loose; omega) (by have h1 := hI.turn; omega)
      have HCS := hid hcs
      have HI := hid hI
      clear hcs hI hlt
      go_wp2_with fail
      refine HCS.out.mono ?_
      rintro e w4 ⟨rfl, D4, L4, h4, r4, b4, s4, t4, c4, n4, l4, x4⟩
      have hI4 : TailI w0 g gl 1 D4 L4 ea ea (ea.length + 1) w4 := by
        rw [HI.out.rows] at h4 r4
        exact ⟨h4, c4, n4.trans HI.out.n, s4.trans HI.out.size, by have := HI.out.turn; omega, by have := HI.out.loose; omega, HI.out.below.trans x4.below, r4, by rw [b4]; have := HI.out.len; omega⟩
      clear HI HCS h4 r4 b4 s4 t4 c4 n4 l4 x4
      go_wp2_with fail
      -- those that are not synced
      go_loopw [18] (fun v18 wr => ∃ (i : Nat) (D : DS) (L : LS), i ≤ eb.length ∧ v18 = .int .i64 (i : Int) ∧ TailI w0 g gl 1 D L ea (ea ++ eb.take i) (ea.length + 1 + i) wr) (fun v18 _ => eb.length - (ofInt v18).toNat)
      case atStart => exact ⟨0, _, _, Nat.zero_le _, rfl, by rw [List.take_zero, List.append_nil]; exact hI4⟩
      case round =>
        obtain ⟨i, D, L, hi, rfl, hI⟩ := hrel
        rename World => wr
        clear hI4
        by_cases hlt : i < eb.length
        · have hlti : (i : Int) < (eb.length : Int) := by omega
          have hbw := HB0.out.trans (hI.below.mono hB0)
          obtain ⟨gb, off, Ax, cx, rfl, hgb, hcell, hcx, hrx⟩ := HRB.out.at_ (k := i) hlt
          have hck := (hbw.cell (p := ⟨gb, off + i, none⟩) hgb).trans hcell
          have hx6 := HB6.out eb[i] (List.getElem_mem hlt)
          obtain ⟨x, hx⟩ : ∃ x, x = eb[i] := ⟨_, rfl⟩
          have htk : eb.take (i + 1) = eb.take i ++ [x] := by rw [hx, List.take_succ_eq_append_getElem hlt]
          rw [← hx] at hck hcx hrx hx6
          have hap := cAppend wr hI.has hI.calm hI.below.size (by rw [hI.size]; have := hI.loose; omega) (b := x) (c := cx) (A := Ax) (fun W hxf => (hrx.below (hbw.trans (hxf.below.mono hB0))).more (hbw.trans (hxf.below.mono hB0)).size) hcx (by omega) (by have := hI.len; rw [hI.size]; omega)
          have HAP := hid hap
          have HI := hid hI
          have HTK := hid htk
          clear hap hI hx htk hcell hrx
          go_wp2_with fail
          refine HAP.out.mono ?_
          rintro e w3 ⟨rfl, D3, h3, c3, n3, l3, x3⟩
          go_wp2_with fail
          refine ⟨⟨i + 1, D3, _, hlt, by push_cast; rfl, ⟨h3, c3, n3.trans HI.out.n, HI.out.size, HI.out.turn, by have h1 := HI.out.loose; have h2 := HI.out.size; omega, HI.out.below.trans x3.below, ?_, ?_⟩⟩, by show eb.length - ((i : Int) + 1).toNat < eb.length - (i : Int).toNat; omega⟩
          · show L.rows ++ [x] = _
            rw [HI.out.rows, HTK.out, List.append_assoc]
          · show (L.b ++ frameL x).length ≤ _
            rw [List.length_append, frameL_len]
            have := HI.out.len
            omega
        · have hlti : ¬ (i : Int) < (eb.length : Int) := by omega
          have hdk := hI.has.disk
          have hdur := hI.has.inv.crash front
          rw [hI.has.inv.size] at hdur
          have hdur2 : Dur (crashD D front).good (sizeD (crashD D front)) L.turn L.area ea := hdur
          have hszc : sizeD (crashD D front) = 99 := hI.has.inv.size.symm.trans hI.size
          have hnn : (crashD D front).n = 200 := hI.n
          have hbw := HB0.out.trans (hI.below.mono hB0)
          have hcr := Crash_any wr (front := front) (c1 := cf) hdk (Kp.of_below (HRF.out.below hbw) hB0) (Nat.le_trans hB0 hI.below.size) HMF.out
          have HCR := hid hcr
          have HBW := hid hI.below
          have HDU := hid hdur2
          have htt := hI.turn
          clear hdk hdur hdur2 hcr hI hlt hbw
          go_wp2_with fail
          refine HCR.out.mono ?_
          rintro e w5 ⟨rfl, hd5, hf5⟩
          have hb5 := HBW.out.trans hf5.below
          have HB5 := hid hb5
          have hop := cOpen w5 hd5 hb5.size (by rw [hnn]; decide) rfl rfl HDU.out
          have HOP := hid hop
          clear hop hd5 hf5 hb5 HCR
          go_wp2_with fail
          refine HOP.out.mono ?_
          rintro e w6 ⟨gm, rfl, hh6, hb6⟩
          rw [hszc] at hh6
          obtain ⟨D6, hD6⟩ : ∃ D6, D6 = crashD D front := ⟨_, rfl⟩
          rw [← hD6] at hh6 hnn
          have hI6 : TailI w0 g gm 1 D6 { size := 99, turn := L.turn, area := L.area, b := framL ea, rows := ea, sure := ea.length, e := 0 } ea ea (ea.length + 1) w6 := ⟨hh6, by rw [hD6]; rfl, hnn, rfl, htt, by rw [hD6]; exact Nat.zero_le _, HB5.out.trans (hb6.mono HB5.out.size), rfl, by have := framL_600 HA6.out; show (framL ea).length ≤ _; omega⟩
          obtain ⟨L6, hL6⟩ : ∃ L6 : LS, L6 = { size := 99, turn := L.turn, area := L.area, b := framL ea, rows := ea, sure := ea.length, e := 0 } := ⟨_, rfl⟩
          rw [← hL6] at hI6
          have HI6 := hid hI6
          clear hL6 hD6 hh6 hb6 hI6 HDU HBW HB5 HOP htt hszc
          go_wp2_with fail
          refine wp_hold (wp_region_lit ?_)
          refine wp_flowSE [0, 1, 3, 7, 15, 31, 63, 127, 255, 511] 10 [false, false, false, false, false, false, false, false, false, false, false, false, false, false, false, false, false, false, false, false, false, false, false, false, false, false, false, false, false, false, false, false, false, false, false, false, false, false, false, false, false, false, false, false, false, false, false, false, false, false, false, false, false, false, false, false, false, false, false, false, false, false, false, false, false, false, false, false, false, false, false, false, false, false, false, false, false, false, false, false, false, false, false, false, false, false, false, false, false, false, false, false, false, true, true, true, true, true, true, true, true, true, true] (by kernel_rfl) (by kernel_rfl) (by kernel_rfl) [FP.eq (.int .i64 0), FP.eq (.bool false), FP.eq (.bool false), FP.eq (.pointer (some ⟨gm, 0, none⟩)), FP.rows ea, FP.eq (.slice Aa ea.length ca), FP.strs ea, FP.eq (.bool true), FP.eq (.bool false), FP.eq (.bool false)] ?_ ?_
          · refine allFrom_cons ?_ ?_
            · intro a_ w_ hk_
              have h16 : a_.eval (.tmp 16) = .int .i64 0 := hk_.old 16 (by kernel_rfl)
              have hx_ := hk_.ext
              clear hk_
              refine flow_plain rfl ?_
              exact gives_move rfl ⟨Below.refl _ _, h16⟩
            refine allFrom_cons ?_ ?_
            · intro a_ w_ hk_
              have h93 : a_.eval (.tmp 93) = (.int .i64 0) := hk_.got 0 93 _ (by kernel_rfl) rfl rfl
              have hx_ := hk_.ext
              clear hk_
              refine flow_plain rfl ?_
              unfold gives
              have hc_ : ∀ v, a_.eval (.const v) = v := fun _ => rfl
              have hn_ : ∀ f, a_.eval (.func f) = .func (.func f) #[] #[] := fun _ => rfl
              generalize a_.eval = ρ_ at *
              go_simp
              exact ⟨Below.refl _ _, rfl⟩
            refine allFrom_cons ?_ ?_
            · intro a_ w_ hk_
              have h94 : a_.eval (.tmp 94) = (.bool false) := hk_.got 1 94 _ (by kernel_rfl) rfl rfl
              have hx_ := hk_.ext
              clear hk_
              refine flow_plain rfl ?_
              exact gives_move rfl ⟨Below.refl _ _, h94⟩
            refine allFrom_cons ?_ ?_
            · intro a_ w_ hk_
              have h15 : a_.eval (.tmp 15) = .pointer (some ⟨gm, 0, none⟩) := hk_.old 15 (by kernel_rfl)
              have hg_ : a_.eval (.tmp 95) = .bool false := hk_.got 2 95 _ (by kernel_rfl) rfl rfl
              have hy_ := hk_.want 2 _ 95 false rfl rfl hg_
              have hx_ := hk_.ext
              clear hk_
              refine flow_want rfl hy_ ?_
              exact gives_move rfl ⟨Below.refl _ _, h15⟩
            refine allFrom_cons ?_ ?_
            · intro a_ w_ hk_
              have h96 : a_.eval (.tmp 96) = (.pointer (some ⟨gm, 0, none⟩)) := hk_.got 3 96 _ (by kernel_rfl) rfl rfl
              have hg_ : a_.eval (.tmp 95) = .bool false := hk_.got 2 95 _ (by kernel_rfl) rfl rfl
              have hy_ := hk_.want 2 _ 95 false rfl rfl hg_
              have hx_ := hk_.ext
              clear hk_
              refine flow_want rfl hy_ ?_
              unfold gives
              have hc_ : ∀ v, a_.eval (.const v) = v := fun _ => rfl
              have hn_ : ∀ f, a_.eval (.func f) = .func (.func f) #[] #[] := fun _ => rfl
              clear hy_ hg_
              generalize a_.eval = ρ_ at *
              go_simp
              have hr_ := records_V w_ (HI6.out.has.log.below hx_ HI6.out.below.size) HI6.out.has.size
              rw [HI6.out.rows] at hr_
              exact hr_.mono fun e w' ⟨v, h1, h2, h3⟩ => ⟨v, h1, h3, h2⟩
            refine allFrom_cons ?_ ?_
            · intro a_ w_ hk_
              have h0 : a_.eval (.tmp 0) = .slice Aa ea.length ca := hk_.old 0 (by kernel_rfl)
              have hg_ : a_.eval (.tmp 95) = .bool false := hk_.got 2 95 _ (by kernel_rfl) rfl rfl
              have hy_ := hk_.want 2 _ 95 false rfl rfl hg_
              have hx_ := hk_.ext
              clear hk_
              refine flow_want rfl hy_ ?_
              exact gives_move rfl ⟨Below.refl _ _, h0⟩
            refine allFrom_cons ?_ ?_
            · intro a_ w_ hk_
              have h98 : a_.eval (.tmp 98) = (.slice Aa ea.length ca) := hk_.got 5 98 _ (by kernel_rfl) rfl rfl
              have hg_ : a_.eval (.tmp 95) = .bool false := hk_.got 2 95 _ (by kernel_rfl) rfl rfl
              have hy_ := hk_.want 2 _ 95 false rfl rfl hg_
              have hx_ := hk_.ext
              clear hk_
              refine flow_want rfl hy_ ?_
              unfold gives
              have hc_ : ∀ v, a_.eval (.const v) = v := fun _ => rfl
              have hn_ : ∀ f, a_.eval (.func f) = .func (.func f) #[] #[] := fun _ => rfl
              clear hy_ hg_
              generalize a_.eval = ρ_ at *
              go_simp
              have hbw_ := HB0.out.trans ((HI6.out.below.mono hB0).trans (hx_.mono (Nat.le_trans hB0 HI6.out.below.size)))
              exact (texts_V w_ (c := ca) ((HRA.out.below hbw_).more hbw_.size) (by omega)).mono fun e w' ⟨v, h1, h2, h3⟩ => ⟨v, h1, h3, h2⟩
            refine allFrom_cons ?_ ?_
            · intro a_ w_ hk_
              have h97 : (FP.rows ea).p (a_.eval (.tmp 97)) w_ := hk_.got 4 97 _ (by kernel_rfl) rfl rfl
              have h99 : (FP.strs ea).p (a_.eval (.tmp 99)) w_ := hk_.got 6 99 _ (by kernel_rfl) rfl rfl
              have hg_ : a_.eval (.tmp 95) = .bool false := hk_.got 2 95 _ (by kernel_rfl) rfl rfl
              have hy_ := hk_.want 2 _ 95 false rfl rfl hg_
              have hx_ := hk_.ext
              clear hk_
              refine flow_want rfl hy_ ?_
              obtain ⟨A97, c97, h97, r97⟩ := h97
              have hs_ := same_V w_ (show RdV w_ w_.heap.size (a_.eval (.tmp 97)) ea from ⟨A97, c97, h97, r97⟩) (show StrV w_ (a_.eval (.tmp 99)) ea from h99) (by omega)
              unfold gives
              have hc_ : ∀ v, a_.eval (.const v) = v := fun _ => rfl
              have hn_ : ∀ f, a_.eval (.func f) = .func (.func f) #[] #[] := fun _ => rfl
              clear h97 h99
              generalize a_.eval = ρ_ at *
              go_simp
              exact hs_.mono fun e w' ⟨h1, h2⟩ => ⟨_, h1, h2, by show Value.bool _ = _; rw [show sameB ea ea = true from decide_eq_true rfl]⟩
            refine allFrom_cons ?_ ?_
            · intro a_ w_ hk_
              have h100 : a_.eval (.tmp 100) = (.bool true) := hk_.got 7 100 _ (by kernel_rfl) rfl rfl
              have hg_ : a_.eval (.tmp 95) = .bool false := hk_.got 2 95 _ (by kernel_rfl) rfl rfl
              have hy_ := hk_.want 2 _ 95 false rfl rfl hg_
              have hx_ := hk_.ext
              clear hk_
              refine flow_want rfl hy_ ?_
              unfold gives
              have hc_ : ∀ v, a_.eval (.const v) = v := fun _ => rfl
              have hn_ : ∀ f, a_.eval (.func f) = .func (.func f) #[] #[] := fun _ => rfl
              clear hy_ hg_
              generalize a_.eval = ρ_ at *
              go_simp
              exact ⟨Below.refl _ _, rfl⟩
            refine allFrom_cons ?_ ?_
            · intro a_ w_ hk_
              have h95 : a_.eval (.tmp 95) = (.bool false) := hk_.got 2 95 _ (by kernel_rfl) rfl rfl
              have h101 : a_.eval (.tmp 101) = (.bool false) := hk_.got 8 101 _ (by kernel_rfl) rfl rfl
              have hx_ := hk_.ext
              clear hk_
              refine flow_plain rfl ?_
              exact gives_pick rfl h95 ⟨Below.refl _ _, h101⟩
            exact allFrom_nil
          intro f_ w_ hx_ hf_
          have h93 : f_ 93 = (.int .i64 0) := hf_ 0 93 _ (by decide) rfl rfl
          have h94 : f_ 94 = (.bool false) := hf_ 1 94 _ (by decide) rfl rfl
          have h95 : f_ 95 = (.bool false) := hf_ 2 95 _ (by decide) rfl rfl
          have h96 : f_ 96 = (.pointer (some ⟨gm, 0, none⟩)) := hf_ 3 96 _ (by decide) rfl rfl
          have h97 : (FP.rows ea).p (f_ 97) w_ := hf_ 4 97 _ (by decide) rfl rfl
          have h98 : f_ 98 = (.slice Aa ea.length ca) := hf_ 5 98 _ (by decide) rfl rfl
          have h99 : (FP.strs ea).p (f_ 99) w_ := hf_ 6 99 _ (by decide) rfl rfl
          have h100 : f_ 100 = (.bool true) := hf_ 7 100 _ (by decide) rfl rfl
          have h101 : f_ 101 = (.bool false) := hf_ 8 101 _ (by decide) rfl rfl
          have h102 : f_ 102 = (.bool false) := hf_ 9 102 _ (by decide) rfl rfl
          simp only [mix, h93, h94, h95, h96, h98, h100, h101, h102]
          clear h93 h94 h95 h96 h98 h100 h101 h102
          clear hf_
          have hbx := HI6.out.below.trans (hx_.mono HI6.out.below.size)
          have hI7 : TailI w0 g gm 1 D6 L6 ea ea (ea.length + 1) w_ := ⟨HI6.out.has.below hx_ HI6.out.below.size, HI6.out.calm, HI6.out.n, HI6.out.size, HI6.out.turn, HI6.out.loose, hbx, HI6.out.rows, HI6.out.len⟩
          have hbw7 := HB0.out.trans (hbx.mono hB0)
          have htx := texts_any w_ (c := ca) ((HRA.out.below hbw7).more hbw7.size) (by omega)
          have HTX := hid htx
          have HI7 := hid hI7
          clear hbx hI7 htx HI6
          go_wp2_with fail
          refine HTX.out.mono ?_
          rintro e w8 ⟨v8, rfl, ho8, hb8⟩
          have hB8 := HI7.out.below.size
          have hI8 : TailI w0 g gm 1 D6 L6 ea ea (ea.length + 1) w8 := ⟨HI7.out.has.below hb8 hB8, HI7.out.calm, HI7.out.n, HI7.out.size, HI7.out.turn, HI7.out.loose, HI7.out.below.trans (hb8.mono hB8), HI7.out.rows, HI7.out.len⟩
          have ho8' := own_lessW ho8 hB8
          have HI8 := hid hI8
          have HO8 := hid ho8'
          clear hI8 ho8 ho8' HI7 HTX hB8 hbw7 hx_ hb8
          go_wp2_with fail
          -- what comes then
          go_loopw [19, 20] (fun v19 v20 wr => ∃ (i : Nat) (D : DS) (L : LS), i ≤ ec.length ∧ v20 = .int .i64 (i : Int) ∧ TailI w0 g gm 1 D L ea (ea ++ ec.take i) (ea.length + 1 + i) wr ∧ wr.ownsRow w0.heap.size tStr 1 v19 (ea.length + i) ((ea ++ ec.take i).map sval)) (fun _ v20 _ => ec.length - (ofInt v20).toNat)
          case atStart => exact ⟨0, _, _, Nat.zero_le _, rfl, by rw [List.take_zero, List.append_nil]; exact HI8.out, by rw [List.take_zero, List.append_nil]; exact HO8.out⟩
          case round =>
            obtain ⟨i, D, L, hi, rfl, hI, hown⟩ := hrel
            rename World => wr
            clear HI8 HO8
            obtain ⟨A9, c9, rfl, _, _, _⟩ := own_form hown
            by_cases hlt : i < ec.length
            · have hlti : (i : Int) < (ec.length : Int) := by omega
              have hbw := HB0.out.trans (hI.below.mono hB0)
              obtain ⟨gb, off, Ax, cx, rfl, hgb, hcell, hcx, hrx⟩ := HRC.out.at_ (k := i) hlt
              have hck := (hbw.cell (p := ⟨gb, off + i, none⟩) hgb).trans hcell
              have hx6 := HC6.out ec[i] (List.getElem_mem hlt)
              obtain ⟨x, hx⟩ : ∃ x, x = ec[i] := ⟨_, rfl⟩
              have htk : ec.take (i + 1) = ec.take i ++ [x] := by rw [hx, List.take_succ_eq_append_getElem hlt]
              rw [← hx] at hck hcx hrx hx6 hcell
              have hap := cAppend wr hI.has hI.calm hI.below.size (by rw [hI.size]; have := hI.loose; omega) (b := x) (c := cx) (A := Ax) (fun W hxf => (hrx.below (hbw.trans (hxf.below.mono hB0))).more (hbw.trans (hxf.below.mono hB0)).size) hcx (by omega) (by have := hI.len; rw [hI.size]; omega)
              have HAP := hid hap
              have HI := hid hI
              have HTK := hid htk
              have HOW := hid hown
              have HCE := hid hcell
              have HRX := hid hrx
              clear hap hI hx htk hcell hrx hown
              go_wp2_with fail
              refine HAP.out.mono ?_
              rintro e w3 ⟨rfl, D3, h3, c3, n3, l3, x3⟩
              have hb3 := HI.out.below.trans x3.below
              have hbw3 := HB0.out.trans (hb3.mono hB0)
              have hck3 := (hbw3.cell (p := ⟨gb, off + i, none⟩) hgb).trans HCE.out
              have hcv3 := convT cx (HRX.out.below hbw3)
              have ho3 := own_xfr HOW.out x3 (by decide)
              have h63 : ea.length + i + 1 ≤ maxLen := by unfold maxLen; omega
              have hby : (ea.length + i + 1) * 16 ≤ 140737488355328 := by omega
              have hob : (w3.alloc (.cells #[.string ⟨x.toArray⟩] tStr)).ownsRow w0.heap.size tStr 1 (.slice A9 (ea.length + i) c9) (ea.length + i) ((ea ++ ec.take i).map sval) := own_keepW ho3 (bx_alloc (Below.refl _ _) _)
              have hrd : Rd (w3.alloc (.cells #[.string ⟨x.toArray⟩] tStr)) (w3.alloc (.cells #[.string ⟨x.toArray⟩] tStr)).heap.size (some ⟨w3.heap.size, 0, none⟩) [.string ⟨x.toArray⟩] := rd_of_row (heap_new rfl) rfl
              have hbb := bx_alloc hb3 (.cells #[.string ⟨x.toArray⟩] tStr)
              have hone : ∀ u ∈ [Value.string ⟨x.toArray⟩], u.oneCell' = true := by intro u hu; simp at hu; subst hu; rfl
              have HOB := hid hob
              have hbs := hbb.size
              have hh3 := h3.below (w' := w3.alloc (.cells #[.string ⟨x.toArray⟩] tStr)) (bx_alloc (Below.refl _ _) _) hb3.size
              clear hob ho3 h3
              go_wp2_with (at_builtin; refine wpList_app rfl _ _ _ rfl _ rfl _ _ _ rfl elStr HOB.out hrd rfl hone h63 hby hbs ?_; intro v5 w5 hown5 hg5 hat5)
              have hx5 : XFr [tStr] w0.heap.size (w3.alloc (.cells #[.string ⟨x.toArray⟩] tStr)) w5 := XFr.of_grown HOB.out hg5 (by simp) hbs
              have hh5 : Has w5 w0.heap.size gm g D3 { L with b := L.b ++ frameL x, rows := L.rows ++ [x] } ea := by
                obtain ⟨vb, vr, vs, hq⟩ := hh3.log
                exact ⟨⟨vb, vr, vs, hq.disk.grownRow HOB.out hg5 (by decide) (by decide), blk_xfr hq.blk hx5 (by decide), hq.by_.xfr hx5 (by decide), hq.rows.xfr hx5 (by decide) (by decide), hq.gB, hq.size, hq.turn, hq.area, hq.len, hq.sure, hq.many, hq.short⟩, hh3.inv⟩
              refine ⟨⟨i + 1, D3, _, hlt, by push_cast; rfl, ⟨hh5, c3, n3.trans HI.out.n, HI.out.size, HI.out.turn, by have h1 := HI.out.loose; have h2 := HI.out.size; omega, hbb.trans hx5.below, ?_, ?_⟩, ?_⟩, by show ec.length - ((i : Int) + 1).toNat < ec.length - (i : Int).toNat; omega⟩
              · show L.rows ++ [x] = _
                rw [HI.out.rows, HTK.out, List.append_assoc]
              · show (L.b ++ frameL x).length ≤ _
                rw [List.length_append, frameL_len]
                have := HI.out.len
                omega
              · rw [HTK.out, ← List.append_assoc, List.map_append]
                exact hown5
            · have hlti : ¬ (i : Int) < (ec.length : Int) := by omega
              have hia : i = ec.length := by omega
              subst hia
              rw [List.take_length] at hI hown
              have hcs := cSync wr hI.has hI.calm hI.below.size (by have := hI.loose; omega) (by have h1 := hI.turn; omega)
              have HCS := hid hcs
              have HI := hid hI
              have HOW := hid hown
              clear hcs hI hlt hown
              go_wp2_with fail
              refine HCS.out.mono ?_
              rintro e w4 ⟨rfl, D4, L4, h4, r4, b4, s4, t4, c4, n4, l4, x4⟩
              rw [HI.out.rows] at h4
              have hb4 := HI.out.below.trans x4.below
              have ho4 := own_xfr HOW.out x4 (by decide)
              have hdur := h4.inv.crash []
              rw [h4.inv.size] at hdur
              have hdur2 : Dur (crashD D4 []).good (sizeD (crashD D4 [])) L4.turn L4.area (ea ++ ec) := hdur
              have hnn : (crashD D4 []).n = 200 := n4.trans HI.out.n
              have hcr := Crash_any w4 (front := []) (c1 := 0) (A1 := none) h4.disk (Kp.of_out (B' := w4.heap.size) (Rd.nil _ _ _) (Out.nil _)) (Nat.le_refl _) (Nat.zero_le _)
              have HCR := hid hcr
              have HDU := hid hdur2
              have HO4 := hid ho4
              have HB4 := hid hb4
              clear hcr hdur hdur2 ho4 hb4 h4 r4 b4 s4 t4 c4 n4 l4 x4 HI HCS HOW
              go_wp2_with fail
              refine HCR.out.mono ?_
              rintro e w5 ⟨rfl, hd5, hf5⟩
              have hb5 := HB4.out.trans hf5.below
              have ho5 := own_dfr HO4.out hf5 (by decide) (by decide)
              have hop := cOpen w5 hd5 hb5.size (by rw [hnn]; decide) rfl rfl HDU.out
              have HOP := hid hop
              have HB5 := hid hb5
              have HO5 := hid ho5
              clear hop hd5 hf5 hb5 ho5 HCR
              go_wp2_with fail
              refine HOP.out.mono ?_
              rintro e w6 ⟨gn, rfl, hh6, hb6⟩
              have ho6 := own_keepW HO5.out hb6
              have hb6' := HB5.out.trans (hb6.mono HB5.out.size)
              obtain ⟨L6', hL6⟩ : ∃ L6' : LS, L6' = { size := sizeD (crashD D4 []), turn := L4.turn, area := L4.area, b := framL (ea ++ ec), rows := ea ++ ec, sure := (ea ++ ec).length, e := 0 } := ⟨_, rfl⟩
              rw [← hL6] at hh6
              have p6 : L6'.rows = ea ++ ec ∧ L6'.sure = ea.length + ec.length := by rw [hL6]; exact ⟨rfl, List.length_append⟩
              have HH6 := hid hh6
              have HB6' := hid hb6'
              have HO6 := hid ho6
              have HP6 := hid p6
              clear hL6 hh6 hb6 ho6 hb6' p6 HOP HO5 HB5 HDU
              go_wp2_with fail
              refine wp_hold (wp_region_lit ?_)
              refine wp_flowSE [0, 1, 3, 7, 15, 31, 63, 127, 255, 511, 1023, 2047, 4095, 8191, 16383, 32767] 16 [false, false, false, false, false, false, false, false, true, false, false, false, false, false, false, false, false, false, false, false, false, false, false, false, false, false, false, false, false, false, false, false, false, false, false, false, false, false, false, false, false, false, false, false, false, false, false, false, false, false, false, false, false, false, false, false, false, false, false, false, false, false, false, false, false, false, false, false, false, false, false, false, false, false, false, false, false, false, false, false, false, false, false, false, false, false, false, false, false, false, false, false, false, false, false, false, false, false, false, false, false, false, false, false, false, false, false, false, false, false, false, false, false, false, false, false, false, false, false, false, false, false, false, false, false, false, false, false, false, false, false, false, false, false, false, false, true, true, true, true, true, true, true, true, true, true, true, true, true, true, true] (by kernel_rfl) (by kernel_rfl) (by kernel_rfl) [FP.eq (.int .i64 0), FP.eq (.bool true), FP.eq (.bool true), FP.eq (.pointer (some ⟨gn, 0, none⟩)), FP.rows (ea ++ ec), FP.eq (.slice A9 (ea.length + ec.length) c9), FP.eq (.bool true), FP.eq (.bool true), FP.eq (.bool true), FP.eq (.pointer (some ⟨gn, 0, none⟩)), FP.eq (.int .i64 ((ea.length + ec.length : Nat) : Int)), FP.eq (.slice A9 (ea.length + ec.length) c9), FP.eq (.int .i64 ((ea.length + ec.length : Nat) : Int)), FP.eq (.bool true), FP.eq (.bool true), FP.eq (.bool true)] ?_ ?_
              · refine allFrom_cons ?_ ?_
                · intro a_ w_ hk_
                  have h16 : a_.eval (.tmp 16) = .int .i64 0 := hk_.old 16 (by kernel_rfl)
                  have hx_ := hk_.ext
                  clear hk_
                  refine flow_plain rfl ?_
                  exact gives_move rfl ⟨Below.refl _ _, h16⟩
                refine allFrom_cons ?_ ?_
                · intro a_ w_ hk_
                  have h136 : a_.eval (.tmp 136) = (.int .i64 0) := hk_.got 0 136 _ (by kernel_rfl) rfl rfl
                  have hx_ := hk_.ext
                  clear hk_
                  refine flow_plain rfl ?_
                  unfold gives
                  have hc_ : ∀ v, a_.eval (.const v) = v := fun _ => rfl
                  have hn_ : ∀ f, a_.eval (.func f) = .func (.func f) #[] #[] := fun _ => rfl
                  generalize a_.eval = ρ_ at *
                  go_simp
                  exact ⟨Below.refl _ _, rfl⟩
                refine allFrom_cons ?_ ?_
                · intro a_ w_ hk_
                  have h137 : a_.eval (.tmp 137) = (.bool true) := hk_.got 1 137 _ (by kernel_rfl) rfl rfl
                  have hx_ := hk_.ext
                  clear hk_
                  refine flow_plain rfl ?_
                  exact gives_move rfl ⟨Below.refl _ _, h137⟩
                refine allFrom_cons ?_ ?_
                · intro a_ w_ hk_
                  have h15 : a_.eval (.tmp 15) = .pointer (some ⟨gn, 0, none⟩) := hk_.old 15 (by kernel_rfl)
                  have hg_ : a_.eval (.tmp 138) = .bool true := hk_.got 2 138 _ (by kernel_rfl) rfl rfl
                  have hy_ := hk_.want 2 _ 138 true rfl rfl hg_
                  have hx_ := hk_.ext
                  clear hk_
                  refine flow_want rfl hy_ ?_
                  exact gives_move rfl ⟨Below.refl _ _, h15⟩
                refine allFrom_cons ?_ ?_
                · intro a_ w_ hk_
                  have h139 : a_.eval (.tmp 139) = (.pointer (some ⟨gn, 0, none⟩)) := hk_.got 3 139 _ (by kernel_rfl) rfl rfl
                  have hg_ : a_.eval (.tmp 138) = .bool true := hk_.got 2 138 _ (by kernel_rfl) rfl rfl
                  have hy_ := hk_.want 2 _ 138 true rfl rfl hg_
                  have hx_ := hk_.ext
                  clear hk_
                  refine flow_want rfl hy_ ?_
                  unfold gives
                  have hc_ : ∀ v, a_.eval (.const v) = v := fun _ => rfl
                  have hn_ : ∀ f, a_.eval (.func f) = .func (.func f) #[] #[] := fun _ => rfl
                  clear hy_ hg_
                  generalize a_.eval = ρ_ at *
                  go_simp
                  have hr_ := records_V w_ (HH6.out.log.below hx_ HB6'.out.size) HH6.out.size
                  rw [HP6.out.1] at hr_
                  exact hr_.mono fun e w' ⟨v, h1, h2, h3⟩ => ⟨v, h1, h3, h2⟩
                refine allFrom_cons ?_ ?_
                · intro a_ w_ hk_
                  have h19 : a_.eval (.tmp 19) = .slice A9 (ea.length + ec.length) c9 := hk_.old 19 (by kernel_rfl)
                  have hg_ : a_.eval (.tmp 138) = .bool true := hk_.got 2 138 _ (by kernel_rfl) rfl rfl
                  have hy_ := hk_.want 2 _ 138 true rfl rfl hg_
                  have hx_ := hk_.ext
                  clear hk_
                  refine flow_want rfl hy_ ?_
                  exact gives_move rfl ⟨Below.refl _ _, h19⟩
                refine allFrom_cons ?_ ?_
                · intro a_ w_ hk_
                  have h140 : (FP.rows (ea ++ ec)).p (a_.eval (.tmp 140)) w_ := hk_.got 4 140 _ (by kernel_rfl) rfl rfl
                  have h141 : a_.eval (.tmp 141) = (.slice A9 (ea.length + ec.length) c9) := hk_.got 5 141 _ (by kernel_rfl) rfl rfl
                  have hg_ : a_.eval (.tmp 138) = .bool true := hk_.got 2 138 _ (by kernel_rfl) rfl rfl
                  have hy_ := hk_.want 2 _ 138 true rfl rfl hg_
                  have hx_ := hk_.ext
                  clear hk_
                  refine flow_want rfl hy_ ?_
                  obtain ⟨A140, c140, h140, r140⟩ := h140
                  have hst_ : StrV w_ (.slice A9 (ea.length + ec.length) c9) (ea ++ ec) := ⟨A9, c9, by rw [List.length_append], (own_rd (own_keepW HO6.out hx_))⟩
                  have hs_ := same_V w_ (show RdV w_ w_.heap.size (a_.eval (.tmp 140)) (ea ++ ec) from ⟨A140, c140, h140, r140⟩) hst_ (by rw [List.length_append]; omega)
                  unfold gives
                  have hc_ : ∀ v, a_.eval (.const v) = v := fun _ => rfl
                  have hn_ : ∀ f, a_.eval (.func f) = .func (.func f) #[] #[] := fun _ => rfl
                  clear h140
                  generalize a_.eval = ρ_ at *
                  go_simp
                  exact hs_.mono fun e w' ⟨h1, h2⟩ => ⟨_, h1, h2, by show Value.bool _ = _; rw [show sameB (ea ++ ec) (ea ++ ec) = true from decide_eq_true rfl]⟩
                refine allFrom_cons ?_ ?_
                · intro a_ w_ hk_
                  have h138 : a_.eval (.tmp 138) = (.bool true) := hk_.got 2 138 _ (by kernel_rfl) rfl rfl
                  have h142 : a_.eval (.tmp 142) = (.bool true) := hk_.got 6 142 _ (by kernel_rfl) rfl rfl
                  have hx_ := hk_.ext
                  clear hk_
                  refine flow_plain rfl ?_
                  exact gives_pick rfl h138 ⟨Below.refl _ _, h142⟩
                refine allFrom_cons ?_ ?_
                · intro a_ w_ hk_
                  have h143 : a_.eval (.tmp 143) = (.bool true) := hk_.got 7 143 _ (by kernel_rfl) rfl rfl
                  have hx_ := hk_.ext
                  clear hk_
                  refine flow_plain rfl ?_
                  exact gives_move rfl ⟨Below.refl _ _, h143⟩
                refine allFrom_cons ?_ ?_
                · intro a_ w_ hk_
                  have h15 : a_.eval (.tmp 15) = .pointer (some ⟨gn, 0, none⟩) := hk_.old 15 (by kernel_rfl)
                  have hg_ : a_.eval (.tmp 144) = .bool true := hk_.got 8 144 _ (by kernel_rfl) rfl rfl
                  have hy_ := hk_.want 8 _ 144 true rfl rfl hg_
                  have hx_ := hk_.ext
                  clear hk_
                  refine flow_want rfl hy_ ?_
                  exact gives_move rfl ⟨Below.refl _ _, h15⟩
                refine allFrom_cons ?_ ?_
                · intro a_ w_ hk_
                  have h145 : a_.eval (.tmp 145) = (.pointer (some ⟨gn, 0, none⟩)) := hk_.got 9 145 _ (by kernel_rfl) rfl rfl
                  have hg_ : a_.eval (.tmp 144) = .bool true := hk_.got 8 144 _ (by kernel_rfl) rfl rfl
                  have hy_ := hk_.want 8 _ 144 true rfl rfl hg_
                  have hx_ := hk_.ext
                  clear hk_
                  refine flow_want rfl hy_ ?_
                  unfold gives
                  have hc_ : ∀ v, a_.eval (.const v) = v := fun _ => rfl
                  have hn_ : ∀ f, a_.eval (.func f) = .func (.func f) #[] #[] := fun _ => rfl
                  clear hy_ hg_
                  generalize a_.eval = ρ_ at *
                  go_simp
                  exact (aSure w_ (HH6.out.log.below hx_ HB6'.out.size)).mono fun e w' ⟨h1, h2⟩ => ⟨_, h1, h2 ▸ Below.refl _ _, by rw [HP6.out.2]; rfl⟩
                refine allFrom_cons ?_ ?_
                · intro a_ w_ hk_
                  have h19 : a_.eval (.tmp 19) = .slice A9 (ea.length + ec.length) c9 := hk_.old 19 (by kernel_rfl)
                  have hg_ : a_.eval (.tmp 144) = .bool true := hk_.got 8 144 _ (by kernel_rfl) rfl rfl
                  have hy_ := hk_.want 8 _ 144 true rfl rfl hg_
                  have hx_ := hk_.ext
                  clear hk_
                  refine flow_want rfl hy_ ?_
                  exact gives_move rfl ⟨Below.refl _ _, h19⟩
                refine allFrom_cons ?_ ?_
                · intro a_ w_ hk_
                  have h147 : a_.eval (.tmp 147) = (.slice A9 (ea.length + ec.length) c9) := hk_.got 11 147 _ (by kernel_rfl) rfl rfl
                  have hg_ : a_.eval (.tmp 144) = .bool true := hk_.got 8 144 _ (by kernel_rfl) rfl rfl
                  have hy_ := hk_.want 8 _ 144 true rfl rfl hg_
                  have hx_ := hk_.ext
                  clear hk_
                  refine flow_want rfl hy_ ?_
                  unfold gives
                  have hc_ : ∀ v, a_.eval (.const v) = v := fun _ => rfl
                  have hn_ : ∀ f, a_.eval (.func f) = .func (.func f) #[] #[] := fun _ => rfl
                  clear hy_ hg_
                  generalize a_.eval = ρ_ at *
                  go_simp
                  exact ⟨Below.refl _ _, rfl⟩
                refine allFrom_cons ?_ ?_
                · intro a_ w_ hk_
                  have h146 : a_.eval (.tmp 146) = (.int .i64 ((ea.length + ec.length : Nat) : Int)) := hk_.got 10 146 _ (by kernel_rfl) rfl rfl
                  have h148 : a_.eval (.tmp 148) = (.int .i64 ((ea.length + ec.length : Nat) : Int)) := hk_.got 12 148 _ (by kernel_rfl) rfl rfl
                  have hg_ : a_.eval (.tmp 144) = .bool true := hk_.got 8 144 _ (by kernel_rfl) rfl rfl
                  have hy_ := hk_.want 8 _ 144 true rfl rfl hg_
                  have hx_ := hk_.ext
                  clear hk_
                  refine flow_want rfl hy_ ?_
                  unfold gives
                  have hc_ : ∀ v, a_.eval (.const v) = v := fun _ => rfl
                  have hn_ : ∀ f, a_.eval (.func f) = .func (.func f) #[] #[] := fun _ => rfl
                  clear hy_ hg_
                  generalize a_.eval = ρ_ at *
                  go_simp
                  exact ⟨Below.refl _ _, rfl⟩
                refine allFrom_cons ?_ ?_
                · intro a_ w_ hk_
                  have h144 : a_.eval (.tmp 144) = (.bool true) := hk_.got 8 144 _ (by kernel_rfl) rfl rfl
                  have h149 : a_.eval (.tmp 149) = (.bool true) := hk_.got 13 149 _ (by kernel_rfl) rfl rfl
                  have hx_ := hk_.ext
                  clear hk_
                  refine flow_plain rfl ?_
                  exact gives_pick rfl h144 ⟨Below.refl _ _, h149⟩
                refine allFrom_cons ?_ ?_
                · intro a_ w_ hk_
                  have h150 : a_.eval (.tmp 150) = (.bool true) := hk_.got 14 150 _ (by kernel_rfl) rfl rfl
                  have hx_ := hk_.ext
                  clear hk_
                  refine flow_plain rfl ?_
                  exact gives_assign rfl ⟨Below.refl _ _, h150⟩
                exact allFrom_nil
              intro f_ w_ hx_ hf_
              have h136 : f_ 136 = (.int .i64 0) := hf_ 0 136 _ (by decide) rfl rfl
              have h137 : f_ 137 = (.bool true) := hf_ 1 137 _ (by decide) rfl rfl
              have h138 : f_ 138 = (.bool true) := hf_ 2 138 _ (by decide) rfl rfl
              have h139 : f_ 139 = (.pointer (some ⟨gn, 0, none⟩)) := hf_ 3 139 _ (by decide) rfl rfl
              have h140 : (FP.rows (ea ++ ec)).p (f_ 140) w_ := hf_ 4 140 _ (by decide) rfl rfl
              have h141 : f_ 141 = (.slice A9 (ea.length + ec.length) c9) := hf_ 5 141 _ (by decide) rfl rfl
              have h142 : f_ 142 = (.bool true) := hf_ 6 142 _ (by decide) rfl rfl
              have h143 : f_ 143 = (.bool true) := hf_ 7 143 _ (by decide) rfl rfl
              have h144 : f_ 144 = (.bool true) := hf_ 8 144 _ (by decide) rfl rfl
              have h145 : f_ 145 = (.pointer (some ⟨gn, 0, none⟩)) := hf_ 9 145 _ (by decide) rfl rfl
              have h146 : f_ 146 = (.int .i64 ((ea.length + ec.length : Nat) : Int)) := hf_ 10 146 _ (by decide) rfl rfl
              have h147 : f_ 147 = (.slice A9 (ea.length + ec.length) c9) := hf_ 11 147 _ (by decide) rfl rfl
              have h148 : f_ 148 = (.int .i64 ((ea.length + ec.length : Nat) : Int)) := hf_ 12 148 _ (by decide) rfl rfl
              have h149 : f_ 149 = (.bool true) := hf_ 13 149 _ (by decide) rfl rfl
              have h150 : f_ 150 = (.bool true) := hf_ 14 150 _ (by decide) rfl rfl
              have h8 : f_ 8 = (.bool true) := hf_ 15 8 _ (by decide) rfl rfl
              simp only [mix, h136, h137, h138, h139, h141, h142, h143, h144, h145, h146, h147, h148, h149, h150, h8]
              clear h136 h137 h138 h139 h141 h142 h143 h144 h145 h146 h147 h148 h149 h150 h8
              clear hf_
              go_wp2_with fail
              exact bodyPost_ret (results_tmp rfl _ _ _) rfl ⟨rfl, HB0.out.trans ((HB6'.out.mono hB0).trans (hx_.mono (Nat.le_trans hB0 HB6'.out.size)))⟩
end Go.Proofs.Ytlpdiamgpnmeoaa
