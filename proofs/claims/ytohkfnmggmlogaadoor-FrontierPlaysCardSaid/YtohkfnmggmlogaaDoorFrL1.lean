
/- FrontierPlays: its walk. -/
import Derived.Test.YtohkfnmggmlogaaDoorFrVL
namespace Go.Proofs.YtohkfnmggmlogaaDoor
open Go.RowKit
set_option linter.unusedVariables false
/-- What a round keeps. -/
def PlRel (w : World) (g gF B n : Nat) (v13 : Value) (wr : World) : Prop :=
  ∃ (i N : Nat) (st : List (List UInt8)) (A : Option Addr) (c : Nat) (cs : List Value), i ≤ n ∧ v13 = .int .i64 (i : Int) ∧ N < 18446744073709551616 ∧ IsF wr B g N st A c ∧ st.length = ones N ∧ IsC wr w.heap.size N st g (Value.slice A st.length c).ownBlock cs ∧ Blk wr gF tFv cs.toArray ∧ Below w.heap.size w wr
set_option maxRecDepth 100000 in
set_option maxHeartbeats 1000000 in
theorem FrontierPlays_walk (w : World) (hL : Laid w) (s0 : Int) (hs0 : (Lit.int .u64 s0).wf = true) (A1 : Option Addr) (c1 : Nat) (ps : List (List UInt8)) (hc1 : ps.length ≤ c1) (hm1 : c1 ≤ maxLen) (h32 : ∀ l ∈ ps, l.length = 32) (hr1 : Rd w w.heap.size A1 (ps.flatten.map cb)) (A2 : Option Addr) (c2 : Nat) (ls : List (List UInt8)) (hc2 : ls.length ≤ c2) (hm2 : c2 ≤ maxLen) (hs2 : ∀ l ∈ ls, l.length ≤ maxLen) (hr2 : RdBB w w.heap.size A2 ls) :
    Calls Tryd.prog 3 #[.int .u64 s0, .slice A1 ps.length c1, .slice A2 ls.length c2] w fun e w' => e = .returned (.bool true) ∧ Below w.heap.size w w' := by
  have hbs := bounds_u64 hs0
  obtain ⟨N0, rfl⟩ := Int.eq_ofNat_of_zero_le hbs.1
  have hN0 : N0 < 18446744073709551616 := by omega
  have HL := hid hL
  have HR1 := hid hr1
  have H32 := hid h32
  have HR2 := hid hr2
  clear hL hr1 h32 hr2 hs2 hs0 hbs
  obtain ⟨m, hm⟩ : ∃ m, m = ps.length := ⟨_, rfl⟩
  have HM := hid hm
  rw [← hm] at hc1 ⊢
  clear hm
  go_enter Tryd.func3, Tryd.ntmps3
  go_wp2_with fail
  refine (frAwake w HL.out).mono ?_
  rintro e w1 ⟨rfl, hb1⟩
  go_wp2_with fail
  refine (few_any w1 ((HR2.out.below hb1).more hb1.size) hc2 hm2).mono ?_
  rintro e w2 ⟨rfl, rfl⟩
  cases hf : fewB ls with
  | false =>
    clear hf
    go_wp2
    go_ret
    exact ⟨rfl, hb1⟩
  | true =>
    obtain ⟨h20, hlen⟩ := fewB_len hf
    have HLEN := hid hlen
    have H60 := hid (fewB_60 hf)
    obtain ⟨n, hn⟩ : ∃ n, n = ls.length := ⟨_, rfl⟩
    have HN := hid hn
    rw [← hn] at h20 hc2 ⊢
    clear hf hlen hn
    by_cases hlen70 : 70 < m
    · go_wp2
      go_ret
      exact ⟨rfl, hb1⟩
    have hbs1 := hb1.size
    by_cases hom : ones N0 = m
    · have HOK := hid (From_ok w1 A1 c1 N0 m (hs := ps) hN0 (by omega) hom HM.out.symm ((HR1.out.below hb1).more hb1.size) H32.out)
      go_wp2_with fail
      refine HOK.out.mono ?_
      rintro e w3 ⟨g, A3, c3, rfl, hF3, hb3⟩
      have hb03 := bx_trans hb1 hb3
      have HF3 := hid hF3
      clear hF3 HOK
      go_wp2_with fail
      refine (rFrom_ok w3 N0 hN0 A1 m c1 (by omega) hom).mono ?_
      rintro e w4 ⟨Ao, ko, rfl, hown4, hb4⟩
      have hb04 := bx_trans hb03 hb4
      have HF4 := hid (HF3.out.below hb4)
      have HOW4 := hid (own_more hown4 hb03.size)
      have HOM := hid hom
      clear hown4 hb4 HF3 hom
      go_wp2_with (first
        | ((with_reducible refine wpAtC ?_); refine wpList_alloc (w := w4) rfl _ rfl zeroF ?_; intro gF w5 hgF hgF' hz5 hb5; simp only [Act.put, List.setIfInBounds_toArray, List.set_cons_succ, List.set_cons_zero])
        | ((with_reducible refine wpAtC ?_); refine wpList_store_agg rfl _ _ _ rfl _ _ rfl (fcs N0 Ao m ko A1 m c1).toArray rfl (aggFS _ _ _ _ _ _ _) hz5 (szF rfl rfl) (oneF _ _ _ _ _ _ _) ?_; intro w6 hp6; simp only [Act.put]; rw [splF rfl rfl] at hp6))
      have hb46 := hb5.trans (hp6.below hgF)
      have hF6 := HF4.out.below hb46
      have hown6 := own_keep HOW4.out hb46
      have hb06 := bx_trans hb04 hb46
      have hgB := hF6.gB
      have hxF6 := hp6.blk
      have hC6 : IsC w6 w.heap.size N0 ps.reverse g (Value.slice A3 ps.reverse.length c3).ownBlock (fcs N0 Ao m ko A1 m c1) := by
        refine ⟨Ao, m, ko, A1, c1, rfl, by rw [List.length_reverse, HM.out], hc1, hown6, by rw [List.reverse_reverse]; exact (HR1.out.below hb06).more hb06.size, fun hne a ha => ?_⟩
        have hlt : a.block < w.heap.size := by
          rcases HR1.out with h | ⟨b, off, e, hlt, _⟩
          · exfalso
            apply hne
            have hl := congrArg List.length h
            rw [List.length_map, hs_len H32.out, List.length_nil] at hl
            have : ps.length = 0 := by omega
            rw [List.eq_nil_of_length_eq_zero this]; rfl
          · rw [ha] at e; injection e with e; subst e; exact hlt
        refine ⟨by omega, fun e => ?_, .inl hlt⟩
        have := (hF6.own.lt a.block e).1
        omega
      have hon6 : ps.reverse.length = ones N0 := by rw [List.length_reverse, ← HM.out, HOM.out]
      have HC6 := hid hC6
      have HF6 := hid hF6
      have HON6 := hid hon6
      have hbt : decide (70 < m) = false := decide_eq_false (by omega)
      try rw [hbt]
      clear hbt hC6 hF6 hon6 hown6 hz5 hp6 hb5 hb46 HOW4 HF4 HOM
      generalize ps.reverse = st0 at *
      generalize fcs N0 Ao m ko A1 m c1 = cs0 at *
      obtain ⟨B, hBe⟩ : ∃ B, B = w1.heap.size := ⟨_, rfl⟩
      rw [← hBe] at HF6 hbs1 hgB
      clear hBe
      have hgFw : w.heap.size ≤ gF := Nat.le_trans hb04.size hgF
      go_loopw [13, 14, 15] (fun v13 v14 v15 wr => PlRel w g gF B n v13 wr) (fun v13 _ _ _ => n + 1 - (intOf v13).toNat)
      case atStart => exact ⟨0, N0, st0, A3, c3, cs0, Nat.zero_le _, rfl, hN0, HF6.out, HON6.out, HC6.out, hxF6, hb06⟩
      case round =>
        clear hb06 HF6 HC6 HON6 hxF6 hb03 hb3 hb1
        obtain ⟨i, N, st, A, c, cs, hi, rfl, hN, hF, hon, hC, hbF, hbr⟩ := hrel
        rename World => wr
        have h32 := hF.ok
        obtain ⟨Ao, m', ko, A2', k2, hcs, hml, hmk, hownO, hrdL, hblkL⟩ := hC
        have hC : IsC wr w.heap.size N st g (Value.slice A st.length c).ownBlock cs := ⟨Ao, m', ko, A2', k2, hcs, hml, hmk, hownO, hrdL, hblkL⟩
        have hag := hC.agg
        have c0 : wr.cell? ⟨gF, 0, none⟩ = some (.int .u64 (N : Int)) := by rw [hbF.cell 0, hcs]; rfl
        have c2' : wr.cell? ⟨gF, 2, none⟩ = some (.slice A2' m' k2) := by rw [hbF.cell 2, hcs]; rfl
        have hgF := hbF.lt
        have hgl := hF.blk.lt
        have hgBf := hF.gB
        have hm64 := ones_le 64 N hN
        obtain ⟨P, hP⟩ : ∃ P, P = st.reverse := ⟨_, rfl⟩
        have hPl : P.length = m' := by rw [hP, List.length_reverse, hml]
        have hP32 : ∀ x ∈ P, x.length = 32 := fun x hx => h32 x (by rw [hP] at hx; exact List.mem_reverse.1 hx)
        obtain ⟨xs, hxs⟩ : ∃ xs, xs = P.flatten.map cb := ⟨_, rfl⟩
        have hpk := fun (w' : World) (hb : Below wr.heap.size wr w') => Peaks_any w' (hF.below hb) (by omega)
        rw [← hP, ← hxs, hml] at hpk
        rw [← hP, ← hxs] at hrdL
        have hfl := froot_len st h32
        have hq := eq_hash (froot st) (froot st) hfl hfl
        rw [show (froot st == froot st) = true from by simp] at hq
        have hfr := fun (w' : World) (hb : Below wr.heap.size wr w') => FRoot_any w' (HL.out.below (bx_trans hbr hb)) (hF.below hb) hon hN
        have hrfr := fun (w' : World) (hr : Rd w' w'.heap.size A2' (P.flatten.map cb)) => rFRoot_any w' N hN Ao ko A2' m' k2 h32 hml hon (by rw [← hP]; exact hr)
        rw [← hcs] at hrfr
        have hm6 : m' ≤ 1000000 := by omega
        have HPK := hid hpk
        have HFR := hid hfr
        have HRFR := hid hrfr
        have HC := hid hC
        have HF := hid hF
        have HON := hid hon
        have HXS := hid hxs
        have HPL := hid hPl
        have HP32 := hid hP32
        have HRDL := hid hrdL
        have HBF := hid hbF
        have HAG := hid hag
        have H32S := hid h32
        have hcs3 := hag.2.1
        clear hpk hfr hrfr hC hF hon hxs hPl hP32 hrdL hbF hag h32 hcs hml hmk hownO hblkL hP
        generalize hR : froot st = R at *
        clear hR
        have hinn : (i : Int) ≤ (n : Int) := by omega
        have hbr0 := hbr
        go_wp2_with fail
        refine wp_flow (by kernel_rfl) [0, 1, 0, 4, 15, 31, 63, 127, 63, 319, 1023, 2047, 4095, 8191, 16383, 32767, 16383, 131071, 262143, 524287] 20 [false, false, false, false, false, false, false, false, false, false, false, false, false, false, false, false, false, false, false, false, false, false, false, false, false, false, false, false, false, false, false, false, false, false, false, false, false, false, false, false, false, false, false, false, false, false, false, false, false, false, false, false, false, false, false, false, false, false, false, false, false, true, true, true, true, true, true, true, true, true, true, true, true, true, true, true, true, true, true, true, true] (by kernel_rfl) (by decide) (by kernel_rfl) [FP.eq (.pointer (some ⟨g, 0, none⟩)), FP.eq (.int .u64 (N : Int)), FP.eq (.pointer (some ⟨gF, 0, none⟩)), FP.eq (.int .u64 (N : Int)), FP.eq (.bool false), FP.eq (.bool false), FP.eq (.pointer (some ⟨g, 0, none⟩)), FP.sl m' xs, FP.eq (.pointer (some ⟨gF, 2, none⟩)), FP.eq (.slice A2' m' k2), FP.eq (.bool true), FP.eq (.bool false), FP.eq (.bool false), FP.eq (.bool false), FP.eq (.pointer (some ⟨g, 0, none⟩)), FP.eq (.agg (R.map cb).toArray), FP.eq (.agg cs.toArray), FP.eq (.agg (R.map cb).toArray), FP.eq (.bool false), FP.eq (.bool false)] ?_ ?_
        · refine allFrom_cons ?_ ?_
          · intro a_ w_ hk_
            have h9 : a_.eval (.tmp 9) = .pointer (some ⟨g, 0, none⟩) := hk_.old 9 (by kernel_rfl)
            have hx_ := hk_.ext
            clear hk_
            refine flow_plain rfl ?_
            exact gives_move rfl ⟨Below.refl _ _, h9⟩
          refine allFrom_cons ?_ ?_
          · intro a_ w_ hk_
            have h61 : a_.eval (.tmp 61) = (.pointer (some ⟨g, 0, none⟩)) := hk_.got 0 61 _ (by kernel_rfl) rfl rfl
            have hx_ := hk_.ext
            clear hk_
            refine flow_plain rfl ?_
            unfold gives
            have hc_ : ∀ v, a_.eval (.const v) = v := fun _ => rfl
            have hn_ : ∀ f, a_.eval (.func f) = .func (.func f) #[] #[] := fun _ => rfl
            generalize a_.eval = ρ_ at *
            go_simp
            exact (Size_any w_ (HF.out.below hx_)).mono fun e w' hh => ⟨_, hh.1, by rw [hh.2]; exact Below.refl _ _, rfl⟩
          refine allFrom_cons ?_ ?_
          · intro a_ w_ hk_
            have h11 : a_.eval (.tmp 11) = .pointer (some ⟨gF, 0, none⟩) := hk_.old 11 (by kernel_rfl)
            have hx_ := hk_.ext
            clear hk_
            refine flow_plain rfl ?_
            unfold gives
            have hc_ : ∀ v, a_.eval (.const v) = v := fun _ => rfl
            have hn_ : ∀ f, a_.eval (.func f) = .func (.func f) #[] #[] := fun _ => rfl
            generalize a_.eval = ρ_ at *
            go_simp
            exact ⟨Below.refl _ _, rfl⟩
          refine allFrom_cons ?_ ?_
          · intro a_ w_ hk_
            have h63 : a_.eval (.tmp 63) = (.pointer (some ⟨gF, 0, none⟩)) := hk_.got 2 63 _ (by kernel_rfl) rfl rfl
            have hx_ := hk_.ext
            clear hk_
            refine flow_plain rfl ?_
            unfold gives
            have hc_ : ∀ v, a_.eval (.const v) = v := fun _ => rfl
            have hn_ : ∀ f, a_.eval (.func f) = .func (.func f) #[] #[] := fun _ => rfl
            have hcell := (hx_.cell (p := ⟨gF, 0, none⟩) hgF).trans c0
            generalize a_.eval = ρ_ at *
            go_simp
            exact ⟨Below.refl _ _, rfl⟩
          refine allFrom_cons ?_ ?_
          · intro a_ w_ hk_
            have h62 : a_.eval (.tmp 62) = (.int .u64 (N : Int)) := hk_.got 1 62 _ (by kernel_rfl) rfl rfl
            have h64 : a_.eval (.tmp 64) = (.int .u64 (N : Int)) := hk_.got 3 64 _ (by kernel_rfl) rfl rfl
            have hx_ := hk_.ext
            clear hk_
            refine flow_plain rfl ?_
            unfold gives
            have hc_ : ∀ v, a_.eval (.const v) = v := fun _ => rfl
            have hn_ : ∀ f, a_.eval (.func f) = .func (.func f) #[] #[] := fun _ => rfl
            generalize a_.eval = ρ_ at *
            go_simp
            exact ⟨Below.refl _ _, rfl⟩
          refine allFrom_cons ?_ ?_
          · intro a_ w_ hk_
            have h65 : a_.eval (.tmp 65) = (.bool false) := hk_.got 4 65 _ (by kernel_rfl) rfl rfl
            have hx_ := hk_.ext
            clear hk_
            refine flow_plain rfl ?_
            exact gives_move rfl ⟨Below.refl _ _, h65⟩
          refine allFrom_cons ?_ ?_
          · intro a_ w_ hk_
            have h9 : a_.eval (.tmp 9) = .pointer (some ⟨g, 0, none⟩) := hk_.old 9 (by kernel_rfl)
            have hg_ : a_.eval (.tmp 66) = .bool false := hk_.got 5 66 _ (by kernel_rfl) rfl rfl
            have hy_ := hk_.want 5 _ 66 false rfl rfl hg_
            have hx_ := hk_.ext
            clear hk_
            refine flow_want rfl hy_ ?_
            exact gives_move rfl ⟨Below.refl _ _, h9⟩
          refine allFrom_cons ?_ ?_
          · intro a_ w_ hk_
            have h67 : a_.eval (.tmp 67) = (.pointer (some ⟨g, 0, none⟩)) := hk_.got 6 67 _ (by kernel_rfl) rfl rfl
            have hg_ : a_.eval (.tmp 66) = .bool false := hk_.got 5 66 _ (by kernel_rfl) rfl rfl
            have hy_ := hk_.want 5 _ 66 false rfl rfl hg_
            have hx_ := hk_.ext
            clear hk_
            refine flow_want rfl hy_ ?_
            unfold gives
            have hc_ : ∀ v, a_.eval (.const v) = v := fun _ => rfl
            have hn_ : ∀ f, a_.eval (.func f) = .func (.func f) #[] #[] := fun _ => rfl
            clear hy_ hg_
            generalize a_.eval = ρ_ at *
            go_simp
            exact (HPK.out w_ hx_).mono fun e w' hh => hh.elim fun v hv => ⟨v, hv.1, hv.2.2, (own_form hv.2.1).elim fun A h1 => h1.elim fun c h2 => ⟨A, c, h2.1, h2.2.2.2⟩⟩
          refine allFrom_cons ?_ ?_
          · intro a_ w_ hk_
            have h11 : a_.eval (.tmp 11) = .pointer (some ⟨gF, 0, none⟩) := hk_.old 11 (by kernel_rfl)
            have hg_ : a_.eval (.tmp 66) = .bool false := hk_.got 5 66 _ (by kernel_rfl) rfl rfl
            have hy_ := hk_.want 5 _ 66 false rfl rfl hg_
            have hx_ := hk_.ext
            clear hk_
            refine flow_want rfl hy_ ?_
            unfold gives
            have hc_ : ∀ v, a_.eval (.const v) = v := fun _ => rfl
            have hn_ : ∀ f, a_.eval (.func f) = .func (.func f) #[] #[] := fun _ => rfl
            clear hy_ hg_
            generalize a_.eval = ρ_ at *
            go_simp
            exact ⟨Below.refl _ _, rfl⟩
          refine allFrom_cons ?_ ?_
          · intro a_ w_ hk_
            have h69 : a_.eval (.tmp 69) = (.pointer (some ⟨gF, 2, none⟩)) := hk_.got 8 69 _ (by kernel_rfl) rfl rfl
            have hg_ : a_.eval (.tmp 66) = .bool false := hk_.got 5 66 _ (by kernel_rfl) rfl rfl
            have hy_ := hk_.want 5 _ 66 false rfl rfl hg_
            have hx_ := hk_.ext
            clear hk_
            refine flow_want rfl hy_ ?_
            unfold gives
            have hc_ : ∀ v, a_.eval (.const v) = v := fun _ => rfl
            have hn_ : ∀ f, a_.eval (.func f) = .func (.func f) #[] #[] := fun _ => rfl
            clear hy_ hg_
            have hcell := (hx_.cell (p := ⟨gF, 2, none⟩) hgF).trans c2'
            generalize a_.eval = ρ_ at *
            go_simp
            exact ⟨Below.refl _ _, rfl⟩
          refine allFrom_cons ?_ ?_
          · intro a_ w_ hk_
            have h68 : (FP.sl m' xs).p (a_.eval (.tmp 68)) w_ := hk_.got 7 68 _ (by kernel_rfl) rfl rfl
            have h70 : a_.eval (.tmp 70) = (.slice A2' m' k2) := hk_.got 9 70 _ (by kernel_rfl) rfl rfl
            have hg_ : a_.eval (.tmp 66) = .bool false := hk_.got 5 66 _ (by kernel_rfl) rfl rfl
            have hy_ := hk_.want 5 _ 66 false rfl rfl hg_
            have hx_ := hk_.ext
            clear hk_
            refine flow_want rfl hy_ ?_
            unfold gives
            have hc_ : ∀ v, a_.eval (.const v) = v := fun _ => rfl
            have hn_ : ∀ f, a_.eval (.func f) = .func (.func f) #[] #[] := fun _ => rfl
            clear hy_ hg_
            obtain ⟨A68, c68, h68, r68⟩ := h68
            generalize a_.eval = ρ_ at *
            go_simp
            exact (same_eq w_ (P := P) HPL.out HP32.out (by rw [← HXS.out]; exact r68) (by rw [← HXS.out]; exact (HRDL.out.below hx_).more hx_.size) hm6).mono fun e w' hh => ⟨_, hh.1, hh.2, rfl⟩
          refine allFrom_cons ?_ ?_
          · intro a_ w_ hk_
            have h71 : a_.eval (.tmp 71) = (.bool true) := hk_.got 10 71 _ (by kernel_rfl) rfl rfl
            have hg_ : a_.eval (.tmp 66) = .bool false := hk_.got 5 66 _ (by kernel_rfl) rfl rfl
            have hy_ := hk_.want 5 _ 66 false rfl rfl hg_
            have hx_ := hk_.ext
            clear hk_
            refine flow_want rfl hy_ ?_
            unfold gives
            have hc_ : ∀ v, a_.eval (.const v) = v := fun _ => rfl
            have hn_ : ∀ f, a_.eval (.func f) = .func (.func f) #[] #[] := fun _ => rfl
            clear hy_ hg_
            generalize a_.eval = ρ_ at *
            go_simp
            exact ⟨Below.refl _ _, rfl⟩
          refine allFrom_cons ?_ ?_
          · intro a_ w_ hk_
            have h66 : a_.eval (.tmp 66) = (.bool false) := hk_.got 5 66 _ (by kernel_rfl) rfl rfl
            have h72 : a_.eval (.tmp 72) = (.bool false) := hk_.got 11 72 _ (by kernel_rfl) rfl rfl
            have hx_ := hk_.ext
            clear hk_
            refine flow_plain rfl ?_
            exact gives_pick rfl h66 ⟨Below.refl _ _, h72⟩
          refine allFrom_cons ?_ ?_
          · intro a_ w_ hk_
            have h73 : a_.eval (.tmp 73) = (.bool false) := hk_.got 12 73 _ (by kernel_rfl) rfl rfl
            have hx_ := hk_.ext
            clear hk_
            refine flow_plain rfl ?_
            exact gives_move rfl ⟨Below.refl _ _, h73⟩
          refine allFrom_cons ?_ ?_
          · intro a_ w_ hk_
            have h9 : a_.eval (.tmp 9) = .pointer (some ⟨g, 0, none⟩) := hk_.old 9 (by kernel_rfl)
            have hg_ : a_.eval (.tmp 74) = .bool false := hk_.got 13 74 _ (by kernel_rfl) rfl rfl
            have hy_ := hk_.want 13 _ 74 false rfl rfl hg_
            have hx_ := hk_.ext
            clear hk_
            refine flow_want rfl hy_ ?_
            exact gives_move rfl ⟨Below.refl _ _, h9⟩
          refine allFrom_cons ?_ ?_
          · intro a_ w_ hk_
            have h75 : a_.eval (.tmp 75) = (.pointer (some ⟨g, 0, none⟩)) := hk_.got 14 75 _ (by kernel_rfl) rfl rfl
            have hg_ : a_.eval (.tmp 74) = .bool false := hk_.got 13 74 _ (by kernel_rfl) rfl rfl
            have hy_ := hk_.want 13 _ 74 false rfl rfl hg_
            have hx_ := hk_.ext
            clear hk_
            refine flow_want rfl hy_ ?_
            unfold gives
            have hc_ : ∀ v, a_.eval (.const v) = v := fun _ => rfl
            have hn_ : ∀ f, a_.eval (.func f) = .func (.func f) #[] #[] := fun _ => rfl
            clear hy_ hg_
            generalize a_.eval = ρ_ at *
            go_simp
            exact (HFR.out w_ hx_).mono fun e w' hh => ⟨_, hh.1, hh.2, rfl⟩
          refine allFrom_cons ?_ ?_
          · intro a_ w_ hk_
            have h11 : a_.eval (.tmp 11) = .pointer (some ⟨gF, 0, none⟩) := hk_.old 11 (by kernel_rfl)
            have hg_ : a_.eval (.tmp 74) = .bool false := hk_.got 13 74 _ (by kernel_rfl) rfl rfl
            have hy_ := hk_.want 13 _ 74 false rfl rfl hg_
            have hx_ := hk_.ext
            clear hk_
            refine flow_want rfl hy_ ?_
            exact gives_ldC rfl h11 hcs3 (blk_cells (HBF.out.below hx_ HBF.out.lt)) ⟨Below.refl _ _, rfl⟩
          refine allFrom_cons ?_ ?_
          · intro a_ w_ hk_
            have h77 : a_.eval (.tmp 77) = (.agg cs.toArray) := hk_.got 16 77 _ (by kernel_rfl) rfl rfl
            have hg_ : a_.eval (.tmp 74) = .bool false := hk_.got 13 74 _ (by kernel_rfl) rfl rfl
            have hy_ := hk_.want 13 _ 74 false rfl rfl hg_
            have hx_ := hk_.ext
            clear hk_
            refine flow_want rfl hy_ ?_
            unfold gives
            have hc_ : ∀ v, a_.eval (.const v) = v := fun _ => rfl
            have hn_ : ∀ f, a_.eval (.func f) = .func (.func f) #[] #[] := fun _ => rfl
            clear hy_ hg_
            generalize a_.eval = ρ_ at *
            go_simp
            exact (HRFR.out w_ (by rw [← HXS.out]; exact (HRDL.out.below hx_).more hx_.size)).mono fun e w' hh => ⟨_, hh.1, hh.2, rfl⟩
          refine allFrom_cons ?_ ?_
          · intro a_ w_ hk_
            have h76 : a_.eval (.tmp 76) = (.agg (R.map cb).toArray) := hk_.got 15 76 _ (by kernel_rfl) rfl rfl
            have h78 : a_.eval (.tmp 78) = (.agg (R.map cb).toArray) := hk_.got 17 78 _ (by kernel_rfl) rfl rfl
            have hg_ : a_.eval (.tmp 74) = .bool false := hk_.got 13 74 _ (by kernel_rfl) rfl rfl
            have hy_ := hk_.want 13 _ 74 false rfl rfl hg_
            have hx_ := hk_.ext
            clear hk_
            refine flow_want rfl hy_ ?_
            unfold gives
            have hc_ : ∀ v, a_.eval (.const v) = v := fun _ => rfl
            have hn_ : ∀ f, a_.eval (.func f) = .func (.func f) #[] #[] := fun _ => rfl
            clear hy_ hg_
            generalize a_.eval = ρ_ at *
            go_simp
            exact ⟨Below.refl _ _, rfl⟩
          refine allFrom_cons ?_ ?_
          · intro a_ w_ hk_
            have h74 : a_.eval (.tmp 74) = (.bool false) := hk_.got 13 74 _ (by kernel_rfl) rfl rfl
            have h79 : a_.eval (.tmp 79) = (.bool false) := hk_.got 18 79 _ (by kernel_rfl) rfl rfl
            have hx_ := hk_.ext
            clear hk_
            refine flow_plain rfl ?_
            exact gives_pick rfl h74 ⟨Below.refl _ _, h79⟩
          exact allFrom_nil
        intro f_ w_ hx_ hf_
        have h61 : f_ 61 = (.pointer (some ⟨g, 0, none⟩)) := hf_ 0 61 _ (by decide) rfl rfl
        have h62 : f_ 62 = (.int .u64 (N : Int)) := hf_ 1 62 _ (by decide) rfl rfl
        have h63 : f_ 63 = (.pointer (some ⟨gF, 0, none⟩)) := hf_ 2 63 _ (by decide) rfl rfl
        have h64 : f_ 64 = (.int .u64 (N : Int)) := hf_ 3 64 _ (by decide) rfl rfl
        have h65 : f_ 65 = (.bool false) := hf_ 4 65 _ (by decide) rfl rfl
        have h66 : f_ 66 = (.bool false) := hf_ 5 66 _ (by decide) rfl rfl
        have h67 : f_ 67 = (.pointer (some ⟨g, 0, none⟩)) := hf_ 6 67 _ (by decide) rfl rfl
        have h68 : (FP.sl m' xs).p (f_ 68) w_ := hf_ 7 68 _ (by decide) rfl rfl
        have h69 : f_ 69 = (.pointer (some ⟨gF, 2, none⟩)) := hf_ 8 69 _ (by decide) rfl rfl
        have h70 : f_ 70 = (.slice A2' m' k2) := hf_ 9 70 _ (by decide) rfl rfl
        have h71 : f_ 71 = (.bool true) := hf_ 10 71 _ (by decide) rfl rfl
        have h72 : f_ 72 = (.bool false) := hf_ 11 72 _ (by decide) rfl rfl
        have h73 : f_ 73 = (.bool false) := hf_ 12 73 _ (by decide) rfl rfl
        have h74 : f_ 74 = (.bool false) := hf_ 13 74 _ (by decide) rfl rfl
        have h75 : f_ 75 = (.pointer (some ⟨g, 0, none⟩)) := hf_ 14 75 _ (by decide) rfl rfl
        have h76 : f_ 76 = (.agg (R.map cb).toArray) := hf_ 15 76 _ (by decide) rfl rfl
        have h77 : f_ 77 = (.agg cs.toArray) := hf_ 16 77 _ (by decide) rfl rfl
        have h78 : f_ 78 = (.agg (R.map cb).toArray) := hf_ 17 78 _ (by decide) rfl rfl
        have h79 : f_ 79 = (.bool false) := hf_ 18 79 _ (by decide) rfl rfl
        have h80 : f_ 80 = (.bool false) := hf_ 19 80 _ (by decide) rfl rfl
        simp only [mix, List.drop_succ_cons, List.drop_zero, h61, h62, h63, h64, h65, h66, h67, h69, h70, h71, h72, h73, h74, h75, h76, h77, h78, h79, h80]
        clear h61 h62 h63 h64 h65 h66 h67 h69 h70 h71 h72 h73 h74 h75 h76 h77 h78 h79 h80
        clear hf_
        rename World => wb
        have HFb := hid (HF.out.below hx_)
        have HCb := hid (HC.out.below hx_)
        have HBFb := hid (HBF.out.below hx_ HBF.out.lt)
        have hbrb := bx_trans hbr hx_
        clear hx_ c0 c2' hbr hbr0 HPK HFR HRFR HRDL
        by_cases hin : i = n
        · have hbE := hbrb
          have hin2 : ((i : Int) == (n : Int)) = true := by simp; omega
          clear hin
          have HBE := hid hbE
          clear hbE
          go_wp2_with fail
          refine (Add_nil _ _).mono ?_
          rintro e wA ⟨rfl, rfl⟩
          go_wp2_with fail
          refine (Size_nil _).mono ?_
          rintro e wB ⟨rfl, rfl⟩
          go_wp2_with fail
          refine (Peaks_nil _).mono ?_
          rintro e wC ⟨rfl, rfl⟩
          go_wp2_with fail
          refine (Root_zero _ (HL.out.below HBE.out) none (fun w' _ => Size_nil w')).mono ?_
          rintro e wD ⟨rfl, hbD⟩
          have hbED := bx_trans HBE.out hbD
          go_wp2_with fail
          refine (Of_any _ (HL.out.below hbED) (A := none) (c := 0) (B' := 0) (ls := []) (.inl rfl) (Nat.zero_le _) (by simp) (by simp)).mono ?_
          rintro e wE ⟨rfl, hbEE⟩
          rw [show ([] : List (List UInt8)).flatten = [] from rfl]
          have hbF9 := bx_trans hbED hbEE
          have hx9 := shaL_len []
          have hq9 := eq_hash (shaL []) (shaL []) hx9 hx9
          rw [show (shaL [] == shaL []) = true from by simp] at hq9
          generalize shaL [] = X9 at *
          go_wp2
          go_ret
          exact ⟨rfl, hbF9⟩
        · have hin2 : ((i : Int) == (n : Int)) = false := by simp; omega
          have hltn : i < n := by omega
          have hltn2 : (i : Int) < (n : Int) := by omega
          obtain ⟨b0, off, Ae, ce, rfl, hbB, hcell, hle1, hrde⟩ := HR2.out.at_ (k := i) (by rw [← HN.out]; exact hltn)
          have h60 := H60.out _ (List.getElem_mem (show i < ls.length by rw [← HN.out]; exact hltn))
          have HCELL := hid hcell
          have HRDE := hid hrde
          clear hin hcell hrde
          generalize ls[i]'(by rw [← HN.out]; exact hltn) = en at *
          have HRE := hid ((HRDE.out.below hbrb))
          have hb0w : b0 < wb.heap.size := Nat.lt_of_lt_of_le hbB hbrb.size
          have HCB0 := hid ((hbrb.cell (p := ⟨b0, off + i, none⟩) hbB).trans HCELL.out)
          obtain ⟨N', st', e, hN', hon', hAr, hAa⟩ := pl_add HL.out hN HFb.out HON.out HCb.out hbrb (by omega) HRDE.out hle1 h60
          have HON' := hid hon'
          have HAR := hid hAr
          have HAA := hid hAa
          clear hon' hAr hAa
          go_wp2_with fail
          refine wp_flowK (by kernel_rfl) [0, 0, 0, 6, 14, 30, 63, 127, 255, 255, 0, 1535, 4095] 12 [false, false, false, false, false, false, false, false, false, false, false, false, false, false, true, false, false, false, false, false, false, false, false, false, false, false, false, false, false, false, false, false, false, false, false, false, false, false, false, false, false, false, false, false, false, false, false, false, false, false, false, false, false, false, false, false, false, false, false, false, false, false, false, false, false, false, false, false, false, false, false, false, false, false, false, false, false, false, false, false, false, false, false, false, false, true, true, true, true, true, true, true, true, true, true] (by kernel_rfl) (by decide) (by kernel_rfl) [KP.eq (.agg cs.toArray), KP.eq (.slice (some ⟨b0, off, none⟩) n c2), KP.eq (.int .i64 (i : Int)), KP.eq (.pointer (some ⟨b0, off + i, none⟩)), KP.eq (.slice Ae en.length ce), KP.eq (.string ⟨en.toArray⟩), KP.tup e, KP.tup e, KP.any, KP.eq (.int .i64 e), KP.any, KP.any] [6, 7, 8, 10, 11] (K17 wb w.heap.size N' st' g (Value.slice A st.length c).ownBlock e) ?_ ?_ ?_
          · simp only [List.map_cons, List.map_nil]
            exact K17.start
          · refine allFrom_cons ?_ ?_
            · refine stepK_by (by decide) ?_
              intro f_ a_ w_ hM_ hk_
              have h11 : a_.eval (.tmp 11) = .pointer (some ⟨gF, 0, none⟩) := hk_.old 11 (by kernel_rfl)
              have k6 := hk_.later 6 _ (by kernel_rfl) rfl
              have k7 := hk_.later 7 _ (by kernel_rfl) rfl
              have k8 := hk_.later 8 _ (by kernel_rfl) rfl
              have k11 := hk_.later 11 _ (by kernel_rfl) rfl
              clear hk_
              refine flow_plain rfl ?_
              have hM := hM_
              simp only [List.map_cons, List.map_nil, k6, k7, k8, k11] at hM
              exact gives_ldC rfl h11 hcs3 (blk_cells (HBFb.out.below hM.1 HBFb.out.lt)) ⟨hM_, rfl⟩
            refine allFrom_cons ?_ ?_
            · refine stepK_by (by decide) ?_
              intro f_ a_ w_ hM_ hk_
              have h2 : a_.eval (.tmp 2) = .slice (some ⟨b0, off, none⟩) n c2 := hk_.old 2 (by kernel_rfl)
              have k6 := hk_.later 6 _ (by kernel_rfl) rfl
              have k7 := hk_.later 7 _ (by kernel_rfl) rfl
              have k8 := hk_.later 8 _ (by kernel_rfl) rfl
              have k11 := hk_.later 11 _ (by kernel_rfl) rfl
              clear hk_
              refine flow_plain rfl ?_
              exact gives_move rfl ⟨hM_, h2⟩
            refine allFrom_cons ?_ ?_
            · refine stepK_by (by decide) ?_
              intro f_ a_ w_ hM_ hk_
              have h13 : a_.eval (.tmp 13) = .int .i64 (i : Int) := hk_.old 13 (by kernel_rfl)
              have k6 := hk_.later 6 _ (by kernel_rfl) rfl
              have k7 := hk_.later 7 _ (by kernel_rfl) rfl
              have k8 := hk_.later 8 _ (by kernel_rfl) rfl
              have k11 := hk_.later 11 _ (by kernel_rfl) rfl
              clear hk_
              refine flow_plain rfl ?_
              exact gives_move rfl ⟨hM_, h13⟩
            refine allFrom_cons ?_ ?_
            · refine stepK_by (by decide) ?_
              intro f_ a_ w_ hM_ hk_
              have h87 : a_.eval (.tmp 87) = (.slice (some ⟨b0, off, none⟩) n c2) := hk_.got 1 87 _ (by kernel_rfl) rfl rfl
              have h88 : a_.eval (.tmp 88) = (.int .i64 (i : Int)) := hk_.got 2 88 _ (by kernel_rfl) rfl rfl
              have k6 := hk_.later 6 _ (by kernel_rfl) rfl
              have k7 := hk_.later 7 _ (by kernel_rfl) rfl
              have k8 := hk_.later 8 _ (by kernel_rfl) rfl
              have k11 := hk_.later 11 _ (by kernel_rfl) rfl
              clear hk_
              refine flow_plain rfl ?_
              refine gives_keep hM_ ?_
              unfold gives
              have hc_ : ∀ v, a_.eval (.const v) = v := fun _ => rfl
              have hn_ : ∀ f, a_.eval (.func f) = .func (.func f) #[] #[] := fun _ => rfl
              generalize a_.eval = ρ_ at *
              go_simp
              exact ⟨rfl, rfl⟩
            refine allFrom_cons ?_ ?_
            · refine stepK_by (by decide) ?_
              intro f_ a_ w_ hM_ hk_
              have h89 : a_.eval (.tmp 89) = (.pointer (some ⟨b0, off + i, none⟩)) := hk_.got 3 89 _ (by kernel_rfl) rfl rfl
              have k6 := hk_.later 6 _ (by kernel_rfl) rfl
              have k7 := hk_.later 7 _ (by kernel_rfl) rfl
              have k8 := hk_.later 8 _ (by kernel_rfl) rfl
              have k11 := hk_.later 11 _ (by kernel_rfl) rfl
              clear hk_
              refine flow_plain rfl ?_
              have hM := hM_
              simp only [List.map_cons, List.map_nil, k6, k7, k8, k11] at hM
              refine gives_keep hM_ ?_
              unfold gives
              have hc_ : ∀ v, a_.eval (.const v) = v := fun _ => rfl
              have hn_ : ∀ f, a_.eval (.func f) = .func (.func f) #[] #[] := fun _ => rfl
              have hcell : w_.cell? ⟨b0, off + i, none⟩ = some (.slice Ae en.length ce) := (hM.1.cell (p := ⟨b0, off + i, none⟩) hb0w).trans HCB0.out
              generalize a_.eval = ρ_ at *
              go_simp
              exact ⟨rfl, rfl⟩
            refine allFrom_cons ?_ ?_
            · refine stepK_by (by decide) ?_
              intro f_ a_ w_ hM_ hk_
              have h90 : a_.eval (.tmp 90) = (.slice Ae en.length ce) := hk_.got 4 90 _ (by kernel_rfl) rfl rfl
              have k6 := hk_.later 6 _ (by kernel_rfl) rfl
              have k7 := hk_.later 7 _ (by kernel_rfl) rfl
              have k8 := hk_.later 8 _ (by kernel_rfl) rfl
              have k11 := hk_.later 11 _ (by kernel_rfl) rfl
              clear hk_
              refine flow_plain rfl ?_
              have hM := hM_
              simp only [List.map_cons, List.map_nil, k6, k7, k8, k11] at hM
              refine gives_keep hM_ ?_
              unfold gives
              have hc_ : ∀ v, a_.eval (.const v) = v := fun _ => rfl
              have hn_ : ∀ f, a_.eval (.func f) = .func (.func f) #[] #[] := fun _ => rfl
              have hcv := convBS ce (HRDE.out.below (bx_trans hbrb hM.1))
              generalize a_.eval = ρ_ at *
              go_simp
              exact ⟨rfl, rfl⟩
            refine allFrom_cons ?_ ?_
            · intro f_ a_ w_ hM_ hk_
              have h86 : a_.eval (.tmp 86) = (.agg cs.toArray) := hk_.got 0 86 _ (by kernel_rfl) rfl rfl
              have h91 : a_.eval (.tmp 91) = (.string ⟨en.toArray⟩) := hk_.got 5 91 _ (by kernel_rfl) rfl rfl
              have k6 : f_ 6 = none := hk_.un
              have k7 := hk_.later 7 _ (by kernel_rfl) rfl
              have k8 := hk_.later 8 _ (by kernel_rfl) rfl
              have k11 := hk_.later 11 _ (by kernel_rfl) rfl
              clear hk_
              simp only [List.map_cons, List.map_nil, k6, k7, k8, k11] at hM_
              simp only [List.map_cons, List.map_nil, upd_same, upd_ne f_ _ (show (7 : Nat) ≠ 6 by decide), upd_ne f_ _ (show (8 : Nat) ≠ 6 by decide), upd_ne f_ _ (show (10 : Nat) ≠ 6 by decide), upd_ne f_ _ (show (11 : Nat) ≠ 6 by decide), k7, k8, k11]
              refine flow_plain rfl ?_
              unfold gives
              have hc_ : ∀ v, a_.eval (.const v) = v := fun _ => rfl
              have hn_ : ∀ f, a_.eval (.func f) = .func (.func f) #[] #[] := fun _ => rfl
              generalize a_.eval = ρ_ at *
              go_simp
              exact (HAR.out w_ hM_.1).mono fun r w' hh => hh.elim fun cs' h1 => ⟨_, h1.1, hM_.six h1.2.2 h1.2.1, _, rfl⟩
            refine allFrom_cons ?_ ?_
            · intro f_ a_ w_ hM_ hk_
              have h92 := hk_.got 6 92 _ (by kernel_rfl) rfl rfl
              have k6 := hk_.val 6 92 _ (by kernel_rfl) rfl rfl
              have k7 : f_ 7 = none := hk_.un
              have k8 := hk_.later 8 _ (by kernel_rfl) rfl
              have k11 := hk_.later 11 _ (by kernel_rfl) rfl
              clear hk_
              simp only [List.map_cons, List.map_nil, k6, k7, k8, k11] at hM_
              simp only [List.map_cons, List.map_nil, upd_same, upd_ne f_ _ (show (6 : Nat) ≠ 7 by decide), upd_ne f_ _ (show (8 : Nat) ≠ 7 by decide), upd_ne f_ _ (show (10 : Nat) ≠ 7 by decide), upd_ne f_ _ (show (11 : Nat) ≠ 7 by decide), k6, k8, k11]
              refine flow_plain rfl ?_
              exact gives_move rfl ⟨hM_.seven, h92⟩
            refine allFrom_cons ?_ ?_
            · intro f_ a_ w_ hM_ hk_
              have h85 := hk_.got 7 85 _ (by kernel_rfl) rfl rfl
              have k6 := hk_.val 6 92 _ (by kernel_rfl) rfl rfl
              have k7 := hk_.val 7 85 _ (by kernel_rfl) rfl rfl
              have k8 : f_ 8 = none := hk_.un
              have k11 := hk_.later 11 _ (by kernel_rfl) rfl
              clear hk_
              simp only [List.map_cons, List.map_nil, k6, k7, k8, k11] at hM_
              simp only [List.map_cons, List.map_nil, upd_same, upd_ne f_ _ (show (6 : Nat) ≠ 8 by decide), upd_ne f_ _ (show (7 : Nat) ≠ 8 by decide), upd_ne f_ _ (show (10 : Nat) ≠ 8 by decide), upd_ne f_ _ (show (11 : Nat) ≠ 8 by decide), k6, k7, k11]
              refine flow_plain rfl ?_
              obtain ⟨cs', e7, hc7⟩ := hM_.at7
              exact gives_ext rfl e7 rfl ⟨hM_.eight hc7, trivial⟩
            refine allFrom_cons ?_ ?_
            · refine stepK_by (by decide) ?_
              intro f_ a_ w_ hM_ hk_
              have h85 := hk_.got 7 85 _ (by kernel_rfl) rfl rfl
              have k6 := hk_.val 6 92 _ (by kernel_rfl) rfl rfl
              have k7 := hk_.val 7 85 _ (by kernel_rfl) rfl rfl
              clear hk_
              refine flow_plain rfl ?_
              have hM := hM_
              simp only [List.map_cons, List.map_nil, k6, k7] at hM
              refine gives_keep hM_ ?_
              unfold gives
              have hc_ : ∀ v, a_.eval (.const v) = v := fun _ => rfl
              have hn_ : ∀ f, a_.eval (.func f) = .func (.func f) #[] #[] := fun _ => rfl
              obtain ⟨u85, h85⟩ := h85
              generalize a_.eval = ρ_ at *
              go_simp
              exact ⟨rfl, rfl⟩
            refine allFrom_cons ?_ ?_
            · intro f_ a_ w_ hM_ hk_
              have k10 : f_ 10 = none := hk_.un
              have k11 := hk_.later 11 _ (by kernel_rfl) rfl
              clear hk_
              simp only [List.map_cons, List.map_nil, k10, k11] at hM_
              simp only [List.map_cons, List.map_nil, upd_same, upd_ne f_ _ (show (6 : Nat) ≠ 10 by decide), upd_ne f_ _ (show (7 : Nat) ≠ 10 by decide), upd_ne f_ _ (show (8 : Nat) ≠ 10 by decide), upd_ne f_ _ (show (11 : Nat) ≠ 10 by decide), k11]
              refine flow_plain rfl ?_
              exact gives_val (gives_alloc_run _ rfl zeroF) ⟨hM_.ten, trivial⟩
            refine allFrom_cons ?_ ?_
            · intro f_ a_ w_ hM_ hk_
              have k6 := hk_.val 6 92 _ (by kernel_rfl) rfl rfl
              have k7 := hk_.val 7 85 _ (by kernel_rfl) rfl rfl
              have k8 := hk_.val 8 93 _ (by kernel_rfl) rfl rfl
              have k10 := hk_.val 10 14 _ (by kernel_rfl) rfl rfl
              have k11 : f_ 11 = none := hk_.un
              clear hk_
              simp only [List.map_cons, List.map_nil, k6, k7, k8, k10, k11] at hM_
              simp only [List.map_cons, List.map_nil, upd_same, upd_ne f_ _ (show (6 : Nat) ≠ 11 by decide), upd_ne f_ _ (show (7 : Nat) ≠ 11 by decide), upd_ne f_ _ (show (8 : Nat) ≠ 11 by decide), upd_ne f_ _ (show (10 : Nat) ≠ 11 by decide), k6, k7, k8, k10]
              refine flow_plain rfl ?_
              obtain ⟨gp, e10, hgp, hbk⟩ := hM_.at10
              obtain ⟨cs8, e8, hc8⟩ := hM_.at8
              have hlen8 := hc8.agg
              have hM2 := hM_
              rw [e10] at hM2
              refine gives_store_agg rfl e10 e8 hlen8.2.2.1 hbk (szF hlen8.1 rfl) hlen8.2.2.2 (fun w1 hp1 => ?_)
              rw [splF hlen8.1 rfl] at hp1
              rw [e10]
              exact ⟨hM2.eleven hgp hc8 hbk hp1 (Nat.le_trans hbrb.size hgp), trivial⟩
            exact allFrom_nil
          intro f_ y_ w_ hM_ hf_ hd_
          have h86 : f_ 86 = (.agg cs.toArray) := (hf_ 0 86 _ (by decide) rfl rfl).1
          have h87 : f_ 87 = (.slice (some ⟨b0, off, none⟩) n c2) := (hf_ 1 87 _ (by decide) rfl rfl).1
          have h88 : f_ 88 = (.int .i64 (i : Int)) := (hf_ 2 88 _ (by decide) rfl rfl).1
          have h89 : f_ 89 = (.pointer (some ⟨b0, off + i, none⟩)) := (hf_ 3 89 _ (by decide) rfl rfl).1
          have h90 : f_ 90 = (.slice Ae en.length ce) := (hf_ 4 90 _ (by decide) rfl rfl).1
          have h91 : f_ 91 = (.string ⟨en.toArray⟩) := (hf_ 5 91 _ (by decide) rfl rfl).1
          have k6 := (hf_ 6 92 _ (by decide) rfl rfl).2
          have h92 := (hf_ 6 92 _ (by decide) rfl rfl).1
          have k7 := (hf_ 7 85 _ (by decide) rfl rfl).2
          have h85 := (hf_ 7 85 _ (by decide) rfl rfl).1
          have k8 := (hf_ 8 93 _ (by decide) rfl rfl).2
          have h94 : f_ 94 = (.int .i64 e) := (hf_ 9 94 _ (by decide) rfl rfl).1
          have k10 := (hf_ 10 14 _ (by decide) rfl rfl).2
          obtain ⟨x11, k11⟩ := hd_ 11 (by decide)
          simp only [List.map_cons, List.map_nil, k6, k7, k8, k10, k11] at hM_
          simp only [mix, List.drop_succ_cons, List.drop_zero, h86, h87, h88, h89, h90, h91, h94]
          clear hf_ hd_ h86 h87 h88 h89 h90 h91 h94 k6 k7 k8 k10 k11
          obtain ⟨hbw, gp, cs', e14, hgp, hC', hbk'⟩ := hM_.done
          rename World => wd
          have hFd := HFb.out.below hbw
          have hBFd := HBFb.out.below hbw HBFb.out.lt
          have hbd := bx_trans hbrb hbw
          have hb0d : b0 < wd.heap.size := Nat.lt_of_lt_of_le hb0w hbw.size
          have hcd := (hbw.cell (p := ⟨b0, off + i, none⟩) hb0w).trans HCB0.out
          have hne : gp ≠ gF := by have := HBFb.out.lt; omega
          have hag' := hC'.agg
          have hl3 := HAG.out.1
          have HSZ : Hid (0 + cs'.toArray.size ≤ cs.toArray.size) := hid (szF hag'.1 hl3)
          have HSP : Hid (spl cs.toArray 0 cs'.toArray.toList = cs'.toArray) := hid (splF hag'.1 hl3)
          rw [e14]
          clear hM_ e14 HAR hbw HRE HCB0 HCELL HFb HCb HBFb
          have HBFD := hid hBFd
          have HBKD := hid hbk'
          have HFD := hid hFd
          have HCD := hid hC'
          have HB0D := hid hcd
          clear hBFd hbk' hFd hC' hcd
          go_wp2_with (first
            | ((with_reducible refine wpAtC ?_); refine wpList_load_agg rfl _ _ rfl _ _ rfl cs' hag'.2.1 (blk_cells HBKD.out) ?_; simp only [Act.put, List.setIfInBounds_toArray, List.set_cons_succ, List.set_cons_zero])
            | ((with_reducible refine wpAtC ?_); refine wpList_store_agg rfl _ _ _ rfl _ _ rfl cs'.toArray rfl hag'.2.2.1 HBFD.out HSZ.out hag'.2.2.2 ?_; intro we hpe; simp only [Act.put]; rw [HSP.out] at hpe; have hce : we.cell? ⟨b0, off + i, none⟩ = some (.slice Ae en.length ce) := (cell_of_heap (hpe.oth b0 (by omega)) _).trans HB0D.out))
          have hbe := hbd.trans (hpe.below hgFw)
          have hFe := HFD.out.put HBFD.out hpe
          have hCe := HCD.out.put HBFD.out hpe hgFw
          have hBFe := hpe.blk
          have hBe : B ≤ we.heap.size := by have := hFe.blk.lt; omega
          clear hce
          refine (HAA.out we hbe hBe hFe).mono ?_
          rintro r wf ⟨rfl, A', c', hgo⟩
          have HCF := hid (IsC.go hgo hFe hCe hgo.below.size hgo.isF.ok)
          have HBFF := hid (blk_go hgo hFe hBFe (by decide) (by decide))
          have hbf := hbe.trans (hgo.below.mono hbs1)
          have HFF := hid hgo.isF
          clear hgo hFe hCe hBFe hpe HBFD HFD HCD HBKD HB0D HAA
          go_wp2_with fail
          go_roundw
          case rel => exact ⟨i + 1, N', st', A', c', cs', by omega, rfl, hN', HFF.out, HON'.out, HCF.out, HBFF.out, hbf⟩
          case measure => simp [intOf]; omega
    · have HNO := hid (From_no w1 A1 c1 N0 m hN0 (by omega) hom)
      have HRNO := hid (fun w' => rFrom_no w' N0 hN0 A1 m c1 (by omega) hom)
      clear hom
      go_wp2_with fail
      refine HNO.out.mono ?_
      rintro e w3 ⟨rfl, rfl⟩
      go_wp2_with fail
      refine (HRNO.out _).mono ?_
      rintro e w4 ⟨rfl, hb4⟩
      have hb04 := bx_trans hb1 hb4
      go_wp2_with (first
        | ((with_reducible refine wpAtC ?_); refine wpList_alloc (w := w4) rfl _ rfl zeroF ?_; intro gF w5 hgF hgF' hz5 hb5; simp only [Act.put, List.setIfInBounds_toArray, List.set_cons_succ, List.set_cons_zero])
        | ((with_reducible refine wpAtC ?_); refine wpList_store_agg rfl _ _ _ rfl _ _ rfl (fcs 0 none 0 0 none 0 0).toArray rfl (aggFS _ _ _ _ _ _ _) hz5 (szF rfl rfl) (oneF _ _ _ _ _ _ _) ?_; intro w6 hp6; simp only [Act.put]; rw [splF rfl rfl] at hp6))
      have hbE := bx_trans hb04 (hb5.trans (hp6.below hgF))
      clear hz5 hp6 hb5
      have hbt : decide (70 < m) = false := decide_eq_false (by omega)
      try rw [hbt]
      clear hbt
      go_loopw [13, 14, 15] (fun v13 v14 v15 wr => v13 = .int .i64 0 ∧ wr = w6) (fun v13 _ _ _ => 0)
      case atStart => exact ⟨rfl, rfl⟩
      case round =>
        obtain ⟨rfl, rfl⟩ := hrel
        have HBE := hid hbE
        clear hbE
        go_wp2_with fail
        refine (Add_nil _ _).mono ?_
        rintro e wA ⟨rfl, rfl⟩
        go_wp2_with fail
        refine (Size_nil _).mono ?_
        rintro e wB ⟨rfl, rfl⟩
        go_wp2_with fail
        refine (Peaks_nil _).mono ?_
        rintro e wC ⟨rfl, rfl⟩
        go_wp2_with fail
        refine (Root_zero _ (HL.out.below HBE.out) none (fun w' _ => Size_nil w')).mono ?_
        rintro e wD ⟨rfl, hbD⟩
        have hbED := bx_trans HBE.out hbD
        go_wp2_with fail
        refine (Of_any _ (HL.out.below hbED) (A := none) (c := 0) (B' := 0) (ls := []) (.inl rfl) (Nat.zero_le _) (by simp) (by simp)).mono ?_
        rintro e wE ⟨rfl, hbEE⟩
        rw [show ([] : List (List UInt8)).flatten = [] from rfl]
        have hbF9 := bx_trans hbED hbEE
        have hx9 := shaL_len []
        have hq9 := eq_hash (shaL []) (shaL []) hx9 hx9
        rw [show (shaL [] == shaL []) = true from by simp] at hq9
        generalize shaL [] = X9 at *
        go_wp2
        go_ret
        exact ⟨rfl, hbF9⟩
end Go.Proofs.YtohkfnmggmlogaaDoor
