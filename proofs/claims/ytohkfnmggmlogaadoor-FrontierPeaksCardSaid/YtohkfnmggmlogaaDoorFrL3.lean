
/- FrontierPeaks: its walk. -/
import Derived.Test.YtohkfnmggmlogaaDoorFrR
import Derived.OpenShut
namespace Go.Proofs.YtohkfnmggmlogaaDoor
open Go.RowKit
set_option linter.unusedVariables false
/-- What a round of the first loop keeps: the first entries have come. -/
def LRel (w : World) (ls : List (List UInt8)) (g B : Nat) (v8 : Value) (wr : World) : Prop :=
  ∃ (i : Nat) (A : Option Addr) (c : Nat), i ≤ ls.length ∧ v8 = .int .i64 (i : Int) ∧ IsF wr B g i (frs (ls.take i)) A c ∧ Below w.heap.size w wr
set_option maxRecDepth 100000 in
set_option maxHeartbeats 1000000 in
theorem FrontierPeaks_walk (w : World) (hL : Laid w) (A0 : Option Addr) (c0 : Nat) (ls : List (List UInt8)) (hc : ls.length ≤ c0) (hm : c0 ≤ maxLen) (hs : ∀ l ∈ ls, l.length ≤ maxLen) (hr : RdBB w w.heap.size A0 ls) (more : Int) (hmore : (Lit.int .u8 more).wf = true) :
    Calls Tryd.prog 5 #[.slice A0 ls.length c0, .int .u8 more] w fun e w' => e = .returned (.bool true) ∧ Below w.heap.size w w' := by
  have hba := bounds_u8 hmore
  obtain ⟨a, rfl⟩ := Int.eq_ofNat_of_zero_le hba.1
  have ha : a < 256 := by omega
  obtain ⟨z, hz⟩ : ∃ z, z = a % 6 := ⟨_, rfl⟩
  have hz6 : z < 6 := by omega
  have hzr : (a : Int).tmod 6 = (z : Int) := (Int.tmod_eq_emod_of_nonneg (by omega)).trans (by omega)
  have hzc : IntKind.i64.wrap (z : Int) = (z : Int) := wr_i64 _ (by omega) (by omega)
  have hzc8 : IntKind.u8.wrap (z : Int) = (z : Int) := by simp only [IntKind.wrap, IntKind.bits, IntKind.signed]; simp; omega
  have HL := hid hL
  have HR := hid hr
  clear hL hr hs hmore hba hz
  go_enter Tryd.func5, Tryd.ntmps5
  go_wp2_with fail
  refine (frAwake w HL.out).mono ?_
  rintro e w1 ⟨rfl, hb1⟩
  go_wp2_with fail
  refine (few_any w1 ((HR.out.below hb1).more hb1.size) hc hm).mono ?_
  rintro e w2 ⟨rfl, rfl⟩
  cases hf : fewB ls with
  | false =>
    clear hf
    go_wp2
    go_ret
    exact ⟨rfl, hb1⟩
  | true =>
    obtain ⟨h20, hlen⟩ := fewB_len hf
    have HLEN := hid hlen
    have H60 := hid (fewB_60 hf)
    obtain ⟨n, hn⟩ : ∃ n, n = ls.length := ⟨_, rfl⟩
    have HN := hid hn
    rw [← hn] at h20 hc ⊢
    clear hf hlen hn
    go_wp2_with fail
    refine (New_any _).mono ?_
    rintro e w3 ⟨g, rfl, hF3, hb3⟩
    have HF3 := hid hF3
    have hb03 := bx_trans hb1 hb3
    obtain ⟨B, hBe⟩ : ∃ B, B = w1.heap.size := ⟨_, rfl⟩
    have hB : w.heap.size ≤ B := by rw [hBe]; exact hb1.size
    rw [← hBe] at HF3
    clear hF3 hb3 hb1 hBe
    go_wp2
    go_loopw [8] (fun v8 wr => LRel w ls g B v8 wr) (fun v8 _ => n - (intOf v8).toNat)
    case atStart => exact ⟨0, none, 0, Nat.zero_le _, rfl, HF3.out, hb03⟩
    case round =>
      clear hb03 HF3
      obtain ⟨i, A, c, hi, rfl, hF, hbr⟩ := hrel
      rename World => wr
      rw [← HN.out] at hi
      by_cases hlt : i < n
      · obtain ⟨b0, off, Ae, ce, rfl, hbB, hcell, hle1, hrde⟩ := HR.out.at_ (k := i) (by rw [← HN.out]; exact hlt)
        have htk : ls.take (i + 1) = ls.take i ++ [ls[i]'(by rw [← HN.out]; exact hlt)] := List.take_succ_eq_append_getElem _
        have h60 := H60.out _ (List.getElem_mem (show i < ls.length by rw [← HN.out]; exact hlt))
        have hti : (ls.take i).length = i := by rw [List.length_take, ← HN.out]; omega
        have hfs : frs (ls.take (i + 1)) = fadd i (frs (ls.take i)) (leafL (ls[i]'(by rw [← HN.out]; exact hlt))) := by rw [htk, frs_snoc, hti]
        have hon : (frs (ls.take i)).length = ones i := by rw [(stk_frs _).2, hti]
        have hcell' := (hbr.cell (p := ⟨b0, off + i, none⟩) hbB).trans hcell
        have hrde' := (hrde.below hbr).more hbr.size
        have hgl := hF.blk.lt
        have hgB := hF.gB
        have HADD := hid (Add_any wr (w0 := w) HL.out hbr hB hF (by omega) hon (by omega) hrde' (Nat.le_refl _) hle1 (by omega))
        rw [← hfs] at HADD
        have hin : (i : Int) < (n : Int) := by omega
        clear htk hti hfs hon hcell hrde hrde' hF
        generalize hST1 : frs (ls.take (i + 1)) = st1 at *
        have HST1 := hid hST1
        clear hST1
        generalize ls[i]'(by rw [← HN.out]; exact hlt) = en at *
        generalize frs (ls.take i) = st at *
        go_wp2_with fail
        refine HADD.out.mono ?_
        rintro e w4 ⟨rfl, A4, c4, hgo⟩
        have hF4 := hgo.isF
        have hb4 := hbr.trans (hgo.below.mono hB)
        have HF4 := hid hF4
        clear hgo hF4 hcell'
        go_wp2_with fail
        go_roundw
        case rel => exact ⟨i + 1, A4, c4, by rw [← HN.out]; omega, by go_num, by rw [HST1.out]; exact HF4.out, hb4⟩
        case measure => simp [intOf]; omega
      · obtain rfl : i = n := by omega
        have hta : ls.take i = ls := by rw [HN.out, List.take_length]
        rw [hta] at hF
        have hon : (frs ls).length = ones i := by rw [(stk_frs ls).2, ← HN.out]
        have hpk := fun k s => frs_at ls (k := k) (s := s)
        rw [← HN.out] at hpk
        have HPK := hid hpk
        have HON := hid hon
        have hol := ones_le 5 i (by omega)
        obtain ⟨m, hm'⟩ : ∃ m, m = (frs ls).length := ⟨_, rfl⟩
        have h32 := hF.ok
        have HF := hid hF
        have HP := Peaks_any wr hF (by omega)
        rw [← hm'] at HP
        have HPP := hid HP
        have hmo : m = ones i := by rw [hm', hon]
        have HMO := hid hmo
        have hm5 : m ≤ 5 := by omega
        clear hmo
        have H32 := hid (fun p (hp : p ∈ (frs ls).reverse) => h32 p (List.mem_reverse.1 hp))
        have hrl : (frs ls).reverse.length = m := by rw [List.length_reverse, hm']
        have HRL := hid hrl
        clear hta hF hon hpk HP hm' h32 hrl hlt hi
        generalize (frs ls).reverse = P at *
        go_wp2_with fail
        refine HPP.out.mono ?_
        rintro e w5 ⟨v5, rfl, hown5, hb5⟩
        have hbr5 := bx_trans hbr hb5
        obtain ⟨Ap, cp, rfl, hcp, hcpm, hrdp⟩ := own_form hown5
        have HRDP := hid hrdp
        have hbase := hbr5.size
        clear hrdp hown5 hb5 hbr HPP HF
        go_wp2
        go_loopw [10, 11, 12] (fun v10 v11 v12 wq => ∃ j : Nat, j ≤ 5 ∧ v10 = .int .i64 ((2 ^ j * (i / 2 ^ j) : Nat) : Int) ∧ v11 = .int .i64 ((ones (i / 2 ^ j) : Nat) : Int) ∧ v12 = .int .i64 ((if j = 0 then 0 else 2 ^ (j - 1) : Nat) : Int) ∧ Below w5.heap.size w5 wq) (fun _ _ v12 _ => (intOf v12).toNat)
        case atStart =>
          refine ⟨5, Nat.le_refl _, ?_, ?_, rfl, Below.refl _ _⟩
          · rw [show i / 2 ^ 5 = 0 from Nat.div_eq_of_lt (by omega)]; rfl
          · rw [show i / 2 ^ 5 = 0 from Nat.div_eq_of_lt (by omega), ones_zero]; rfl
        case round =>
          obtain ⟨j, hj, rfl, rfl, rfl, hbq⟩ := hrel
          rename World => wq
          cases j with
          | zero =>
            rw [show 2 ^ 0 * (i / 2 ^ 0) = i by simp, show i / 2 ^ 0 = i by simp, ← HMO.out]
            have hmk := run_mkH z (by omega)
            obtain ⟨Z, hZ⟩ : ∃ Z, Z = ((zeroHs z).flatten.map cb).toArray := ⟨_, rfl⟩
            rw [← hZ] at hmk
            obtain ⟨w6, hw6⟩ : ∃ w6, w6 = wq.alloc (.cells Z tHa) := ⟨_, rfl⟩
            have hb6 : Below wq.heap.size wq w6 := by rw [hw6]; exact bx_alloc (Below.refl _ _) _
            have hrd6 : Rd w6 w6.heap.size (some ⟨wq.heap.size, 0, none⟩) ((zeroHs z).flatten.map cb) := by rw [hw6]; exact rd_of_row (heap_new rfl) (by rw [hZ])
            clear hZ
            have hbq6 := hbr5.trans ((hbq.trans (hb6.mono hbq.size)).mono hbase)
            have hw1 : IntKind.u64.wrap (i : Int) = (i : Int) := u64_len i (by omega)
            have HW6 := hid hw6
            have HRD6 := hid hrd6
            clear hb6 hrd6 hbq hj
            by_cases hmz : m = z
            · have HOK := hid (From_ok w6 (some ⟨wq.heap.size, 0, none⟩) z i z (hs := zeroHs z) (by omega) (by omega) (by rw [← HMO.out, hmz]) (zeroHs_len z) HRD6.out (zeroHs_32 z))
              subst hmz
              clear hw6
              go_wp2_with fail
              rw [← HW6.out]
              refine HOK.out.mono ?_
              rintro e w7 ⟨g7, A7, c7, rfl, _, hb7⟩
              have hb07 := bx_trans hbq6 hb7
              go_wp2
              go_ret
              exact ⟨rfl, hb07⟩
            · have HNO := hid (From_no w6 (some ⟨wq.heap.size, 0, none⟩) z i z (by omega) (by omega) (by rw [← HMO.out]; exact hmz))
              have hmz1 : ((z : Int) == (m : Int)) = false := by simp; omega
              clear hmz hw6
              go_wp2_with fail
              rw [← HW6.out]
              refine HNO.out.mono ?_
              rintro e w7 ⟨rfl, rfl⟩
              go_wp2
              go_ret
              exact ⟨rfl, hbq6⟩
          | succ j =>
            have hqd := Nat.div_add_mod (i / 2 ^ j) 2
            have hos := ones_step i j
            have hofs := off_step i j
            have hofp := off_pow i (j + 1)
            have hpa := peak_at i j
            have hbd : (if j + 1 = 0 then 0 else 2 ^ (j + 1 - 1) : Nat) = 2 ^ j := by simp
            have hbp := Nat.two_pow_pos j
            have hb16 : 2 ^ j ≤ 16 := Nat.le_trans (Nat.pow_le_pow_right (by decide) (show j ≤ 4 by omega)) (by decide)
            have hb2 : (2 ^ j / 2 : Nat) = (if j = 0 then 0 else 2 ^ (j - 1) : Nat) := by
              cases j with
              | zero => rfl
              | succ j => rw [if_neg (by omega), Nat.add_sub_cancel, Nat.pow_succ, Nat.mul_div_cancel _ (by decide)]
            have hKm : i / 2 ^ j % 2 = 1 → ones (i / 2 ^ (j + 1)) < m ∧ 2 ^ (j + 1) * (i / 2 ^ (j + 1)) + 2 ^ j ≤ i ∧ P[ones (i / 2 ^ (j + 1))]? = some (treeR ((ls.drop (2 ^ (j + 1) * (i / 2 ^ (j + 1)))).take (2 ^ j))) := by
              intro h1
              have h2 := HPK.out _ _ (hpa h1)
              rw [hofp] at h2
              exact ⟨by rw [← HRL.out]; exact (List.getElem?_eq_some_iff.1 h2.1).1, h2.2, h2.1⟩
            rw [hbd]
            have hdl : 2 ^ (j + 1) * (i / 2 ^ (j + 1)) ≤ i := Nat.mul_div_le i _
            have hq20 : i / 2 ^ j ≤ 20 := Nat.le_trans (Nat.div_le_self _ _) h20
            obtain ⟨b, hb⟩ : ∃ b, b = 2 ^ j := ⟨_, rfl⟩
            obtain ⟨K, hK⟩ : ∃ K, K = ones (i / 2 ^ (j + 1)) := ⟨_, rfl⟩
            obtain ⟨t, ht⟩ : ∃ t, t = 2 ^ (j + 1) * (i / 2 ^ (j + 1)) := ⟨_, rfl⟩
            obtain ⟨q, hq⟩ : ∃ q, q = i / 2 ^ j := ⟨_, rfl⟩
            obtain ⟨b2, hb2e⟩ : ∃ b2, b2 = (if j = 0 then 0 else 2 ^ (j - 1) : Nat) := ⟨_, rfl⟩
            have HRE := hid (show 2 ^ j * (i / 2 ^ j) = t + b * (q % 2) ∧ ones (i / 2 ^ j) = q % 2 + K ∧ (if j = 0 then 0 else 2 ^ (j - 1) : Nat) = b2 from ⟨by rw [hofs, hb, ht, hq], by rw [hos, hK, hq], hb2e.symm⟩)
            have hqb : (i : Int).tdiv (b : Int) = (q : Int) := by
              rw [Int.tdiv_eq_ediv_of_nonneg (by omega), hq, hb]; exact (Int.natCast_ediv i (2 ^ j)).symm
            rw [← hK, ← ht]
            rw [← hq, ← hK, ← ht, ← hb] at hKm
            rw [← hb] at hbp hb16 hb2 ⊢
            rw [← hq] at hq20
            rw [← ht] at hdl
            rw [← hb2e] at hb2
            clear hb hK ht hq hb2e hofs hos hofp hpa hbd hqd
            have hbb : (b : Int).tdiv 2 = (b2 : Int) := (Int.tdiv_eq_ediv_of_nonneg (by omega)).trans (by omega)
            have hqr : (q : Int).tmod 2 = ((q % 2 : Nat) : Int) := (Int.tmod_eq_emod_of_nonneg (by omega)).trans (by omega)
            have hbn : ¬ (b : Int) = 0 := by omega
            have hbi : (b : Int) > 0 := by omega
            have hlt2 : b2 < b := by omega
            have HWB := hid (show wrap64 (b2 : Int) = (b2 : Int) by simp only [wrap64]; omega)
            clear hb2
            rcases Nat.mod_two_eq_zero_or_one q with hr | hr
            · rw [hr] at hqr HRE
              have hqr0 : (q : Int).tmod 2 = 0 := hqr
              clear hKm hr hqr
              go_wp2_with fail
              go_roundw
              case rel => exact ⟨j, by omega, by rw [HRE.out.1, Nat.mul_zero, Nat.add_zero], by rw [HRE.out.2.1, Nat.zero_add], by rw [HRE.out.2.2], hbq⟩
              case measure => simp only [intOf]; omega
            · rw [hr] at hqr HRE
              have hqr0 : (q : Int).tmod 2 = 1 := hqr
              clear hqr
              obtain ⟨hk1, hk2, hk3⟩ := hKm hr
              clear hKm hr
              obtain ⟨b0, off, Ae, ce, rfl, hbB, _, _, _⟩ := HR.out.at_ (k := 0) (by rw [← HN.out]; omega)
              have hKP : K < P.length := by rw [HRL.out]; exact hk1
              obtain ⟨gp, po, rfl, hgpl, hpc⟩ := rd_hash' HRDP.out H32.out K hKP
              rw [show P[K] = treeR ((ls.drop t).take b) from Option.some.inj ((List.getElem?_eq_getElem _).symm.trans hk3)] at hpc
              have hrt := (HR.out.dropL t).takeL b
              have hlb : ((ls.drop t).take b).length = b := by rw [List.length_take, List.length_drop, ← HN.out]; omega
              have hml : ∀ l ∈ (ls.drop t).take b, l.length ≤ 800000000 := fun l hl => HLEN.out l (List.mem_of_mem_drop (List.mem_of_mem_take hl))
              have hx32 := treeR_len ((ls.drop t).take b)
              have HRT := hid hrt
              have HLB := hid hlb
              have HML := hid hml
              have HPC := hid hpc
              clear hk3 hrt hlb hml hpc
              generalize hX : treeR ((ls.drop t).take b) = X at *
              have HX := hid hX
              clear hX
              generalize (ls.drop t).take b = lb at *
              have hax := aggHL hx32
              have qq := eq_hash X X hx32 hx32
              rw [show (X == X) = true from by simp] at qq
              have hbW := hbr5.trans (hbq.mono hbase)
              have hk3 : t + b ≤ c0 := by omega
              obtain ⟨e, he⟩ : ∃ e, e = t + b := ⟨_, rfl⟩
              have hte : t ≤ e := by omega
              have hec : e ≤ c0 := by omega
              have HLE := hid (show lb.length = e - t by rw [HLB.out]; omega)
              have HE := hid (show ((t + b : Nat) : Int) = (e : Int) by rw [he])
              have hie : (t : Int) + (b : Int) = (e : Int) := by omega
              have he20 : e ≤ 20 := by omega
              clear he
              have hck : ¬ c0 = t := by omega
              go_wp2_with fail
              refine wp_flow (by kernel_rfl) [0, 0, 2, 7, 15, 31, 31, 127, 255, 31, 31, 31, 31, 6175, 15903, 32287, 65535, 131071] 18 [false, false, false, false, false, false, false, false, false, false, false, false, false, false, false, false, false, false, false, false, false, false, false, false, false, false, false, false, false, false, false, false, false, false, false, false, false, false, false, false, false, false, false, false, false, false, false, false, true, true, true, true, true, true, true, true, true, true, true, true, true, true, true, true, true, true] (by kernel_rfl) (by decide) (by kernel_rfl) [FP.eq (.int .i64 (K : Int)), FP.eq (.slice (some ⟨gp, po, none⟩) m cp), FP.eq (.int .i64 (m : Int)), FP.eq (.bool false), FP.eq (.bool false), FP.eq (.slice (some ⟨gp, po, none⟩) m cp), FP.eq (.int .i64 (K : Int)), FP.eq (.pointer (some ⟨gp, po + K * 32, none⟩)), FP.eq (.agg (X.map cb).toArray), FP.eq (.slice (some ⟨b0, off, none⟩) i c0), FP.eq (.int .i64 (t : Int)), FP.eq (.int .i64 (t : Int)), FP.eq (.int .i64 (b : Int)), FP.eq (.int .i64 (e : Int)), FP.eq (.slice (some ⟨b0, off + t, none⟩) (e - t) (c0 - t)), FP.eq (.agg (X.map cb).toArray), FP.eq (.bool false), FP.eq (.bool false)] ?_ ?_
              · refine allFrom_cons ?_ ?_
                · intro a_ w_ hk_
                  have h11 : a_.eval (.tmp 11) = .int .i64 (K : Int) := hk_.old 11 (by kernel_rfl)
                  have hx_ := hk_.ext
                  clear hk_
                  refine flow_plain rfl ?_
                  exact gives_move rfl ⟨Below.refl _ _, h11⟩
                refine allFrom_cons ?_ ?_
                · intro a_ w_ hk_
                  have h9 : a_.eval (.tmp 9) = .slice (some ⟨gp, po, none⟩) m cp := hk_.old 9 (by kernel_rfl)
                  have hx_ := hk_.ext
                  clear hk_
                  refine flow_plain rfl ?_
                  exact gives_move rfl ⟨Below.refl _ _, h9⟩
                refine allFrom_cons ?_ ?_
                · intro a_ w_ hk_
                  have h49 : a_.eval (.tmp 49) = (.slice (some ⟨gp, po, none⟩) m cp) := hk_.got 1 49 _ (by kernel_rfl) rfl rfl
                  have hx_ := hk_.ext
                  clear hk_
                  refine flow_plain rfl ?_
                  unfold gives
                  have hc_ : ∀ v, a_.eval (.const v) = v := fun _ => rfl
                  have hn_ : ∀ f, a_.eval (.func f) = .func (.func f) #[] #[] := fun _ => rfl
                  generalize a_.eval = ρ_ at *
                  go_simp
                  exact ⟨Below.refl _ _, rfl⟩
                refine allFrom_cons ?_ ?_
                · intro a_ w_ hk_
                  have h48 : a_.eval (.tmp 48) = (.int .i64 (K : Int)) := hk_.got 0 48 _ (by kernel_rfl) rfl rfl
                  have h50 : a_.eval (.tmp 50) = (.int .i64 (m : Int)) := hk_.got 2 50 _ (by kernel_rfl) rfl rfl
                  have hx_ := hk_.ext
                  clear hk_
                  refine flow_plain rfl ?_
                  unfold gives
                  have hc_ : ∀ v, a_.eval (.const v) = v := fun _ => rfl
                  have hn_ : ∀ f, a_.eval (.func f) = .func (.func f) #[] #[] := fun _ => rfl
                  generalize a_.eval = ρ_ at *
                  go_simp
                  exact ⟨Below.refl _ _, congrArg Value.bool (decide_eq_false (by omega))⟩
                refine allFrom_cons ?_ ?_
                · intro a_ w_ hk_
                  have h51 : a_.eval (.tmp 51) = (.bool false) := hk_.got 3 51 _ (by kernel_rfl) rfl rfl
                  have hx_ := hk_.ext
                  clear hk_
                  refine flow_plain rfl ?_
                  exact gives_move rfl ⟨Below.refl _ _, h51⟩
                refine allFrom_cons ?_ ?_
                · intro a_ w_ hk_
                  have h9 : a_.eval (.tmp 9) = .slice (some ⟨gp, po, none⟩) m cp := hk_.old 9 (by kernel_rfl)
                  have hg_ : a_.eval (.tmp 52) = .bool false := hk_.got 4 52 _ (by kernel_rfl) rfl rfl
                  have hy_ := hk_.want 4 _ 52 false rfl rfl hg_
                  have hx_ := hk_.ext
                  clear hk_
                  refine flow_want rfl hy_ ?_
                  exact gives_move rfl ⟨Below.refl _ _, h9⟩
                refine allFrom_cons ?_ ?_
                · intro a_ w_ hk_
                  have h11 : a_.eval (.tmp 11) = .int .i64 (K : Int) := hk_.old 11 (by kernel_rfl)
                  have hg_ : a_.eval (.tmp 52) = .bool false := hk_.got 4 52 _ (by kernel_rfl) rfl rfl
                  have hy_ := hk_.want 4 _ 52 false rfl rfl hg_
                  have hx_ := hk_.ext
                  clear hk_
                  refine flow_want rfl hy_ ?_
                  exact gives_move rfl ⟨Below.refl _ _, h11⟩
                refine allFrom_cons ?_ ?_
                · intro a_ w_ hk_
                  have h53 : a_.eval (.tmp 53) = (.slice (some ⟨gp, po, none⟩) m cp) := hk_.got 5 53 _ (by kernel_rfl) rfl rfl
                  have h54 : a_.eval (.tmp 54) = (.int .i64 (K : Int)) := hk_.got 6 54 _ (by kernel_rfl) rfl rfl
                  have hg_ : a_.eval (.tmp 52) = .bool false := hk_.got 4 52 _ (by kernel_rfl) rfl rfl
                  have hy_ := hk_.want 4 _ 52 false rfl rfl hg_
                  have hx_ := hk_.ext
                  clear hk_
                  refine flow_want rfl hy_ ?_
                  unfold gives
                  have hc_ : ∀ v, a_.eval (.const v) = v := fun _ => rfl
                  have hn_ : ∀ f, a_.eval (.func f) = .func (.func f) #[] #[] := fun _ => rfl
                  clear hy_ hg_
                  generalize a_.eval = ρ_ at *
                  go_simp
                  exact ⟨Below.refl _ _, rfl⟩
                refine allFrom_cons ?_ ?_
                · intro a_ w_ hk_
                  have h55 : a_.eval (.tmp 55) = (.pointer (some ⟨gp, po + K * 32, none⟩)) := hk_.got 7 55 _ (by kernel_rfl) rfl rfl
                  have hg_ : a_.eval (.tmp 52) = .bool false := hk_.got 4 52 _ (by kernel_rfl) rfl rfl
                  have hy_ := hk_.want 4 _ 52 false rfl rfl hg_
                  have hx_ := hk_.ext
                  clear hk_
                  refine flow_want rfl hy_ ?_
                  exact gives_ldC rfl h55 hax (fun i v hv => ((hbq.trans (hx_.mono hbq.size)).cell (p := ⟨gp, po + K * 32 + i, none⟩) hgpl).trans (HPC.out i v hv)) ⟨Below.refl _ _, rfl⟩
                refine allFrom_cons ?_ ?_
                · intro a_ w_ hk_
                  have h0 : a_.eval (.tmp 0) = .slice (some ⟨b0, off, none⟩) i c0 := hk_.old 0 (by kernel_rfl)
                  have hg_ : a_.eval (.tmp 52) = .bool false := hk_.got 4 52 _ (by kernel_rfl) rfl rfl
                  have hy_ := hk_.want 4 _ 52 false rfl rfl hg_
                  have hx_ := hk_.ext
                  clear hk_
                  refine flow_want rfl hy_ ?_
                  exact gives_move rfl ⟨Below.refl _ _, h0⟩
                refine allFrom_cons ?_ ?_
                · intro a_ w_ hk_
                  have h10 : a_.eval (.tmp 10) = .int .i64 (t : Int) := hk_.old 10 (by kernel_rfl)
                  have hg_ : a_.eval (.tmp 52) = .bool false := hk_.got 4 52 _ (by kernel_rfl) rfl rfl
                  have hy_ := hk_.want 4 _ 52 false rfl rfl hg_
                  have hx_ := hk_.ext
                  clear hk_
                  refine flow_want rfl hy_ ?_
                  exact gives_move rfl ⟨Below.refl _ _, h10⟩
                refine allFrom_cons ?_ ?_
                · intro a_ w_ hk_
                  have h10 : a_.eval (.tmp 10) = .int .i64 (t : Int) := hk_.old 10 (by kernel_rfl)
                  have hg_ : a_.eval (.tmp 52) = .bool false := hk_.got 4 52 _ (by kernel_rfl) rfl rfl
                  have hy_ := hk_.want 4 _ 52 false rfl rfl hg_
                  have hx_ := hk_.ext
                  clear hk_
                  refine flow_want rfl hy_ ?_
                  exact gives_move rfl ⟨Below.refl _ _, h10⟩
                refine allFrom_cons ?_ ?_
                · intro a_ w_ hk_
                  have h12 : a_.eval (.tmp 12) = .int .i64 (b : Int) := hk_.old 12 (by kernel_rfl)
                  have hg_ : a_.eval (.tmp 52) = .bool false := hk_.got 4 52 _ (by kernel_rfl) rfl rfl
                  have hy_ := hk_.want 4 _ 52 false rfl rfl hg_
                  have hx_ := hk_.ext
                  clear hk_
                  refine flow_want rfl hy_ ?_
                  exact gives_move rfl ⟨Below.refl _ _, h12⟩
                refine allFrom_cons ?_ ?_
                · intro a_ w_ hk_
                  have h59 : a_.eval (.tmp 59) = (.int .i64 (t : Int)) := hk_.got 11 59 _ (by kernel_rfl) rfl rfl
                  have h60 : a_.eval (.tmp 60) = (.int .i64 (b : Int)) := hk_.got 12 60 _ (by kernel_rfl) rfl rfl
                  have hg_ : a_.eval (.tmp 52) = .bool false := hk_.got 4 52 _ (by kernel_rfl) rfl rfl
                  have hy_ := hk_.want 4 _ 52 false rfl rfl hg_
                  have hx_ := hk_.ext
                  clear hk_
                  refine flow_want rfl hy_ ?_
                  unfold gives
                  have hc_ : ∀ v, a_.eval (.const v) = v := fun _ => rfl
                  have hn_ : ∀ f, a_.eval (.func f) = .func (.func f) #[] #[] := fun _ => rfl
                  clear hy_ hg_
                  generalize a_.eval = ρ_ at *
                  go_simp
                  first | exact ⟨Below.refl _ _, rfl⟩ | exact ⟨Below.refl _ _, congrArg (Value.int _) ((wr_i64 _ (by omega) (by omega)).trans (by omega))⟩
                refine allFrom_cons ?_ ?_
                · intro a_ w_ hk_
                  have h57 : a_.eval (.tmp 57) = (.slice (some ⟨b0, off, none⟩) i c0) := hk_.got 9 57 _ (by kernel_rfl) rfl rfl
                  have h58 : a_.eval (.tmp 58) = (.int .i64 (t : Int)) := hk_.got 10 58 _ (by kernel_rfl) rfl rfl
                  have h61 : a_.eval (.tmp 61) = (.int .i64 (e : Int)) := hk_.got 13 61 _ (by kernel_rfl) rfl rfl
                  have hg_ : a_.eval (.tmp 52) = .bool false := hk_.got 4 52 _ (by kernel_rfl) rfl rfl
                  have hy_ := hk_.want 4 _ 52 false rfl rfl hg_
                  have hx_ := hk_.ext
                  clear hk_
                  refine flow_want rfl hy_ ?_
                  unfold gives
                  have hc_ : ∀ v, a_.eval (.const v) = v := fun _ => rfl
                  have hn_ : ∀ f, a_.eval (.func f) = .func (.func f) #[] #[] := fun _ => rfl
                  clear hy_ hg_
                  generalize a_.eval = ρ_ at *
                  go_simp
                  exact ⟨Below.refl _ _, rfl⟩
                refine allFrom_cons ?_ ?_
                · intro a_ w_ hk_
                  have h62 : a_.eval (.tmp 62) = (.slice (some ⟨b0, off + t, none⟩) (e - t) (c0 - t)) := hk_.got 14 62 _ (by kernel_rfl) rfl rfl
                  have hg_ : a_.eval (.tmp 52) = .bool false := hk_.got 4 52 _ (by kernel_rfl) rfl rfl
                  have hy_ := hk_.want 4 _ 52 false rfl rfl hg_
                  have hx_ := hk_.ext
                  clear hk_
                  refine flow_want rfl hy_ ?_
                  unfold gives
                  have hc_ : ∀ v, a_.eval (.const v) = v := fun _ => rfl
                  have hn_ : ∀ f, a_.eval (.func f) = .func (.func f) #[] #[] := fun _ => rfl
                  clear hy_ hg_
                  generalize a_.eval = ρ_ at *
                  go_simp
                  exact (Root_any (e - t) w_ lb (e - t) (some ⟨b0, off + t, none⟩) (c0 - t) w.heap.size HLE.out (Nat.le_refl _) (HL.out.below (bx_trans hbW hx_)) (HRT.out.below (bx_trans hbW hx_)) (bx_trans hbW hx_).size (by omega) (by omega) HML.out).mono fun e w' hh => ⟨_, hh.1, hh.2, by rw [HX.out]; rfl⟩
                refine allFrom_cons ?_ ?_
                · intro a_ w_ hk_
                  have h56 : a_.eval (.tmp 56) = (.agg (X.map cb).toArray) := hk_.got 8 56 _ (by kernel_rfl) rfl rfl
                  have h63 : a_.eval (.tmp 63) = (.agg (X.map cb).toArray) := hk_.got 15 63 _ (by kernel_rfl) rfl rfl
                  have hg_ : a_.eval (.tmp 52) = .bool false := hk_.got 4 52 _ (by kernel_rfl) rfl rfl
                  have hy_ := hk_.want 4 _ 52 false rfl rfl hg_
                  have hx_ := hk_.ext
                  clear hk_
                  refine flow_want rfl hy_ ?_
                  unfold gives
                  have hc_ : ∀ v, a_.eval (.const v) = v := fun _ => rfl
                  have hn_ : ∀ f, a_.eval (.func f) = .func (.func f) #[] #[] := fun _ => rfl
                  clear hy_ hg_
                  generalize a_.eval = ρ_ at *
                  go_simp
                  exact ⟨Below.refl _ _, rfl⟩
                refine allFrom_cons ?_ ?_
                · intro a_ w_ hk_
                  have h52 : a_.eval (.tmp 52) = (.bool false) := hk_.got 4 52 _ (by kernel_rfl) rfl rfl
                  have h64 : a_.eval (.tmp 64) = (.bool false) := hk_.got 16 64 _ (by kernel_rfl) rfl rfl
                  have hx_ := hk_.ext
                  clear hk_
                  refine flow_plain rfl ?_
                  exact gives_pick rfl h52 ⟨Below.refl _ _, h64⟩
                exact allFrom_nil
              intro f_ w_ hx_ hf_
              have h48 : f_ 48 = (.int .i64 (K : Int)) := hf_ 0 48 _ (by decide) rfl rfl
              have h49 : f_ 49 = (.slice (some ⟨gp, po, none⟩) m cp) := hf_ 1 49 _ (by decide) rfl rfl
              have h50 : f_ 50 = (.int .i64 (m : Int)) := hf_ 2 50 _ (by decide) rfl rfl
              have h51 : f_ 51 = (.bool false) := hf_ 3 51 _ (by decide) rfl rfl
              have h52 : f_ 52 = (.bool false) := hf_ 4 52 _ (by decide) rfl rfl
              have h53 : f_ 53 = (.slice (some ⟨gp, po, none⟩) m cp) := hf_ 5 53 _ (by decide) rfl rfl
              have h54 : f_ 54 = (.int .i64 (K : Int)) := hf_ 6 54 _ (by decide) rfl rfl
              have h55 : f_ 55 = (.pointer (some ⟨gp, po + K * 32, none⟩)) := hf_ 7 55 _ (by decide) rfl rfl
              have h56 : f_ 56 = (.agg (X.map cb).toArray) := hf_ 8 56 _ (by decide) rfl rfl
              have h57 : f_ 57 = (.slice (some ⟨b0, off, none⟩) i c0) := hf_ 9 57 _ (by decide) rfl rfl
              have h58 : f_ 58 = (.int .i64 (t : Int)) := hf_ 10 58 _ (by decide) rfl rfl
              have h59 : f_ 59 = (.int .i64 (t : Int)) := hf_ 11 59 _ (by decide) rfl rfl
              have h60 : f_ 60 = (.int .i64 (b : Int)) := hf_ 12 60 _ (by decide) rfl rfl
              have h61 : f_ 61 = (.int .i64 (e : Int)) := hf_ 13 61 _ (by decide) rfl rfl
              have h62 : f_ 62 = (.slice (some ⟨b0, off + t, none⟩) (e - t) (c0 - t)) := hf_ 14 62 _ (by decide) rfl rfl
              have h63 : f_ 63 = (.agg (X.map cb).toArray) := hf_ 15 63 _ (by decide) rfl rfl
              have h64 : f_ 64 = (.bool false) := hf_ 16 64 _ (by decide) rfl rfl
              have h65 : f_ 65 = (.bool false) := hf_ 17 65 _ (by decide) rfl rfl
              simp only [mix, List.drop_succ_cons, List.drop_zero, h48, h49, h50, h51, h52, h53, h54, h55, h56, h57, h58, h59, h60, h61, h62, h63, h64, h65]
              clear h48 h49 h50 h51 h52 h53 h54 h55 h56 h57 h58 h59 h60 h61 h62 h63 h64 h65
              clear hf_
              have hbq2 := hbq.trans (hx_.mono hbq.size)
              have HBQ := hid hbq2
              clear hx_ hbq2 hbW
              go_wp2_with fail
              go_roundw
              case rel => exact ⟨j, by omega, by rw [HRE.out.1, Nat.mul_one, HE.out], by rw [HRE.out.2.1]; go_num, by rw [HRE.out.2.2], HBQ.out⟩
              case measure => simp only [intOf]; omega
end Go.Proofs.YtohkfnmggmlogaaDoor
