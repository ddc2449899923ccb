
/- What the statements about entries share: few, same. -/
import Derived.Test.YtohkfnmggmlogaaDoorChV
namespace Go.Proofs.YtohkfnmggmlogaaDoor
open Go.RowKit
set_option linter.unusedVariables false
def shortB (ls : List (List UInt8)) : Bool := ls.all fun l => decide (l.length ≤ 60)
def fewB (ls : List (List UInt8)) : Bool := shortB ls && decide (ls.length ≤ 20)
theorem fewB_len {ls : List (List UInt8)} (h : fewB ls = true) : ls.length ≤ 20 ∧ ∀ l ∈ ls, l.length ≤ 800000000 := by
  unfold fewB shortB at h
  rw [Bool.and_eq_true, List.all_eq_true, decide_eq_true_eq] at h
  exact ⟨h.2, fun l hl => by have := h.1 l hl; rw [decide_eq_true_eq] at this; omega⟩
theorem fewB_60 {ls : List (List UInt8)} (h : fewB ls = true) : ∀ l ∈ ls, l.length ≤ 60 := by
  unfold fewB shortB at h
  rw [Bool.and_eq_true, List.all_eq_true, decide_eq_true_eq] at h
  exact fun l hl => by have := h.1 l hl; rwa [decide_eq_true_eq] at this
set_option maxRecDepth 10000 in
set_option maxHeartbeats 1000000 in
theorem few_any (w : World) {A : Option Addr} {c : Nat} {ls : List (List UInt8)} (hr : RdBB w w.heap.size A ls) (hc : ls.length ≤ c) (hc2 : c ≤ maxLen) :
    Calls Tryd.prog 10 #[.slice A ls.length c] w fun e w' => e = .returned (.bool (fewB ls)) ∧ w = w' := by
  unfold maxLen at hc2
  have HR := hid hr
  obtain ⟨F, hF⟩ : ∃ F, F = fewB ls := ⟨_, rfl⟩
  rw [← hF]
  have HF := hid hF
  clear hr hF
  go_enter Tryd.func10, Tryd.ntmps10
  go_wp2
  go_loop [3] (fun v3 => ∃ i : Nat, i ≤ ls.length ∧ v3 = .int .i64 (i : Int) ∧ shortB (ls.take i) = true) (fun v3 => ls.length - (intOf v3).toNat)
  case atStart => exact ⟨0, Nat.zero_le _, rfl, rfl⟩
  case round =>
    obtain ⟨i, hi, rfl, hs⟩ := hrel
    have HS := hid hs
    clear hs
    by_cases hlt : i < ls.length
    · obtain ⟨b, off, A', c', rfl, hbB, hcell, hlc, _⟩ := HR.out.at_ hlt
      have htk : ls.take (i + 1) = ls.take i ++ [ls[i]] := List.take_succ_eq_append_getElem hlt
      have hmem : ls[i] ∈ ls := List.getElem_mem hlt
      have HTK := hid htk
      have HMEM := hid hmem
      clear htk hmem
      generalize ls[i] = x at *
      by_cases h60 : x.length ≤ 60
      · go_wp2
        go_round
        case rel => exact ⟨i + 1, by omega, by go_num, by rw [HTK.out, shortB, List.all_append, Bool.and_eq_true]; exact ⟨HS.out, by simpa using h60⟩⟩
        case measure => simp [intOf]; omega
      · have HE : Hid (F = false) := hid (by
          rw [HF.out, fewB]
          have : shortB ls = false := by
            unfold shortB
            rw [List.all_eq_false]
            exact ⟨x, HMEM.out, by simpa using h60⟩
          rw [this, Bool.false_and])
        go_wp2
        go_ret
        exact ⟨by rw [HE.out]; rfl, rfl⟩
    · have hil : i = ls.length := by omega
      subst hil
      have HE : Hid (F = decide (ls.length ≤ 20)) := hid (by
        rw [HF.out, fewB]
        have := HS.out
        rw [List.take_length] at this
        rw [this, Bool.true_and])
      clear HS
      by_cases h20 : ls.length ≤ 20
      · have hd : (ls.length : Int) ≤ 20 := by omega
        have HE2 : Hid (F = true) := hid (by rw [HE.out]; exact decide_eq_true h20)
        clear HE
        go_wp2
        go_ret
        exact ⟨by rw [HE2.out]; rfl, rfl⟩
      · have hd : ¬ (ls.length : Int) ≤ 20 := by omega
        have HE2 : Hid (F = false) := hid (by rw [HE.out]; exact decide_eq_false h20)
        clear HE
        go_wp2
        go_ret
        exact ⟨by rw [HE2.out]; rfl, rfl⟩
theorem rd_hash' {w : World} {B : Nat} {A : Option Addr} {P : List (List UInt8)} (h : Rd w B A (P.flatten.map cb)) (hz : ∀ x ∈ P, x.length = 32) (i : Nat) (hi : i < P.length) : ∃ b off, A = some ⟨b, off, none⟩ ∧ b < B ∧ ∀ j v, (P[i].map cb)[j]? = some v → w.cell? ⟨b, off + i * 32 + j, none⟩ = some v := by
  have hk : 0 < (P.flatten.map cb).length := by rw [List.length_map, hs_len hz]; omega
  obtain ⟨b, off, rfl, _, _⟩ := h.at_ hk
  obtain ⟨h1, h2⟩ := rd_hash h hz i hi
  exact ⟨b, off, rfl, h1, h2⟩
set_option maxRecDepth 10000 in
set_option maxHeartbeats 1000000 in
theorem same_any (w : World) {A1 A2 : Option Addr} {c1 c2 : Nat} {P Q : List (List UInt8)} (hP : ∀ x ∈ P, x.length = 32) (hQ : ∀ x ∈ Q, x.length = 32) (hr1 : Rd w w.heap.size A1 (P.flatten.map cb)) (hr2 : Rd w w.heap.size A2 (Q.flatten.map cb)) (hl1 : P.length ≤ 1000000) (hl2 : Q.length ≤ 1000000) :
    Calls Tryd.prog 14 #[.slice A1 P.length c1, .slice A2 Q.length c2] w fun e w' => e = .returned (.bool (decide (P = Q))) ∧ Below w.heap.size w w' := by
  have HP := hid hP
  have HQ := hid hQ
  have HR1 := hid hr1
  have HR2 := hid hr2
  obtain ⟨R, hR⟩ : ∃ R, R = decide (P = Q) := ⟨_, rfl⟩
  rw [← hR]
  have HRR := hid hR
  clear hP hQ hr1 hr2 hR
  by_cases hl : P.length = Q.length
  · have HL := hid hl
    obtain ⟨m, hm⟩ : ∃ m, m = P.length := ⟨_, rfl⟩
    rw [← hl, ← hm]
    rw [← hm] at hl1
    have HM := hid hm
    clear hm hl hl2
    go_enter Tryd.func14, Tryd.ntmps14
    go_wp2
    go_loopw [5] (fun v5 wr => ∃ i : Nat, i ≤ m ∧ v5 = .int .i64 (i : Int) ∧ P.take i = Q.take i ∧ Below w.heap.size w wr) (fun v5 _ => m - (intOf v5).toNat)
    case atStart => exact ⟨0, Nat.zero_le _, rfl, rfl, Below.refl _ _⟩
    case round =>
      obtain ⟨i, hi, rfl, hs, hbr⟩ := hrel
      rename World => wo
      have HS := hid hs
      clear hs
      by_cases hlt : i < m
      · have hi1 : i < P.length := by rw [← HM.out]; exact hlt
        have hi2 : i < Q.length := by rw [← HL.out]; exact hi1
        obtain ⟨b1, off1, rfl, hb1, hd1⟩ := rd_hash' (HR1.out.below hbr) HP.out i hi1
        obtain ⟨b2, off2, rfl, hb2, hd2⟩ := rd_hash' (HR2.out.below hbr) HQ.out i hi2
        have hx := HP.out _ (List.getElem_mem hi1)
        have hy := HQ.out _ (List.getElem_mem hi2)
        have htk : P[i] = Q[i] → P.take (i + 1) = Q.take (i + 1) := by
          intro h
          rw [List.take_succ_eq_append_getElem hi1, List.take_succ_eq_append_getElem hi2, HS.out, h]
        have hne : P[i] ≠ Q[i] → P ≠ Q := by
          intro h hpq
          exact h (by simp only [hpq])
        have HTK := hid htk
        have HNE := hid hne
        have HD1 := hid hd1
        have HD2 := hid hd2
        clear htk hne hd1 hd2
        generalize P[i] = x at *
        generalize Q[i] = y at *
        have hax := aggHL hx
        have hay := aggHL hy
        have hb1w : b1 < wo.heap.size := Nat.lt_of_lt_of_le hb1 hbr.size
        have hb2w : b2 < wo.heap.size := Nat.lt_of_lt_of_le hb2 hbr.size
        have heq := eq_hash x y hx hy
        clear hi1 hi2
        by_cases hxy : x = y
        · rw [show (x == y) = true by simpa using hxy] at heq
          have HT := hid (HTK.out hxy)
          clear hxy HTK HNE
          go_wp2_with fail
          refine wp_flow (by kernel_rfl) [0, 0, 3, 7, 0, 0, 48, 112, 255] 9 [false, false, false, false, false, false, false, false, false, false, false, false, false, false, false, false, false, true, true, true, true, true, true, true, true, true] (by kernel_rfl) (by decide) (by kernel_rfl) [FP.eq (.slice (some ⟨b1, off1, none⟩) m c1), FP.eq (.int .i64 (i : Int)), FP.eq (.pointer (some ⟨b1, off1 + i * 32, none⟩)), FP.eq (.agg (x.map cb).toArray), FP.eq (.slice (some ⟨b2, off2, none⟩) m c2), FP.eq (.int .i64 (i : Int)), FP.eq (.pointer (some ⟨b2, off2 + i * 32, none⟩)), FP.eq (.agg (y.map cb).toArray), FP.eq (.bool false)] ?_ ?_
          · refine allFrom_cons ?_ ?_
            · intro a_ w_ hk_
              have h0 : a_.eval (.tmp 0) = .slice (some ⟨b1, off1, none⟩) m c1 := hk_.old 0 (by kernel_rfl)
              have hx_ := hk_.ext
              clear hk_
              refine flow_plain rfl ?_
              exact gives_move rfl ⟨Below.refl _ _, h0⟩
            refine allFrom_cons ?_ ?_
            · intro a_ w_ hk_
              have h5 : a_.eval (.tmp 5) = .int .i64 (i : Int) := hk_.old 5 (by kernel_rfl)
              have hx_ := hk_.ext
              clear hk_
              refine flow_plain rfl ?_
              exact gives_move rfl ⟨Below.refl _ _, h5⟩
            refine allFrom_cons ?_ ?_
            · intro a_ w_ hk_
              have h17 : a_.eval (.tmp 17) = (.slice (some ⟨b1, off1, none⟩) m c1) := hk_.got 0 17 _ (by kernel_rfl) rfl rfl
              have h18 : a_.eval (.tmp 18) = (.int .i64 (i : Int)) := hk_.got 1 18 _ (by kernel_rfl) rfl rfl
              have hx_ := hk_.ext
              clear hk_
              refine flow_plain rfl ?_
              unfold gives
              have hc_ : ∀ v, a_.eval (.const v) = v := fun _ => rfl
              have hn_ : ∀ f, a_.eval (.func f) = .func (.func f) #[] #[] := fun _ => rfl
              generalize a_.eval = ρ_ at *
              go_simp
              exact ⟨Below.refl _ _, rfl⟩
            refine allFrom_cons ?_ ?_
            · intro a_ w_ hk_
              have h19 : a_.eval (.tmp 19) = (.pointer (some ⟨b1, off1 + i * 32, none⟩)) := hk_.got 2 19 _ (by kernel_rfl) rfl rfl
              have hx_ := hk_.ext
              clear hk_
              refine flow_plain rfl ?_
              exact gives_ldC rfl h19 hax (fun j v hv => (hx_.cell (p := ⟨b1, off1 + i * 32 + j, none⟩) hb1w).trans (HD1.out j v hv)) ⟨Below.refl _ _, rfl⟩
            refine allFrom_cons ?_ ?_
            · intro a_ w_ hk_
              have h1 : a_.eval (.tmp 1) = .slice (some ⟨b2, off2, none⟩) m c2 := hk_.old 1 (by kernel_rfl)
              have hx_ := hk_.ext
              clear hk_
              refine flow_plain rfl ?_
              exact gives_move rfl ⟨Below.refl _ _, h1⟩
            refine allFrom_cons ?_ ?_
            · intro a_ w_ hk_
              have h5 : a_.eval (.tmp 5) = .int .i64 (i : Int) := hk_.old 5 (by kernel_rfl)
              have hx_ := hk_.ext
              clear hk_
              refine flow_plain rfl ?_
              exact gives_move rfl ⟨Below.refl _ _, h5⟩
            refine allFrom_cons ?_ ?_
            · intro a_ w_ hk_
              have h21 : a_.eval (.tmp 21) = (.slice (some ⟨b2, off2, none⟩) m c2) := hk_.got 4 21 _ (by kernel_rfl) rfl rfl
              have h22 : a_.eval (.tmp 22) = (.int .i64 (i : Int)) := hk_.got 5 22 _ (by kernel_rfl) rfl rfl
              have hx_ := hk_.ext
              clear hk_
              refine flow_plain rfl ?_
              unfold gives
              have hc_ : ∀ v, a_.eval (.const v) = v := fun _ => rfl
              have hn_ : ∀ f, a_.eval (.func f) = .func (.func f) #[] #[] := fun _ => rfl
              generalize a_.eval = ρ_ at *
              go_simp
              exact ⟨Below.refl _ _, rfl⟩
            refine allFrom_cons ?_ ?_
            · intro a_ w_ hk_
              have h23 : a_.eval (.tmp 23) = (.pointer (some ⟨b2, off2 + i * 32, none⟩)) := hk_.got 6 23 _ (by kernel_rfl) rfl rfl
              have hx_ := hk_.ext
              clear hk_
              refine flow_plain rfl ?_
              exact gives_ldC rfl h23 hay (fun j v hv => (hx_.cell (p := ⟨b2, off2 + i * 32 + j, none⟩) hb2w).trans (HD2.out j v hv)) ⟨Below.refl _ _, rfl⟩
            refine allFrom_cons ?_ ?_
            · intro a_ w_ hk_
              have h20 : a_.eval (.tmp 20) = (.agg (x.map cb).toArray) := hk_.got 3 20 _ (by kernel_rfl) rfl rfl
              have h24 : a_.eval (.tmp 24) = (.agg (y.map cb).toArray) := hk_.got 7 24 _ (by kernel_rfl) rfl rfl
              have hx_ := hk_.ext
              clear hk_
              refine flow_plain rfl ?_
              unfold gives
              have hc_ : ∀ v, a_.eval (.const v) = v := fun _ => rfl
              have hn_ : ∀ f, a_.eval (.func f) = .func (.func f) #[] #[] := fun _ => rfl
              generalize a_.eval = ρ_ at *
              go_simp
              exact ⟨Below.refl _ _, rfl⟩
            exact allFrom_nil
          intro f_ w_ hx_ hf_
          have h17 : f_ 17 = (.slice (some ⟨b1, off1, none⟩) m c1) := hf_ 0 17 _ (by decide) rfl rfl
          have h18 : f_ 18 = (.int .i64 (i : Int)) := hf_ 1 18 _ (by decide) rfl rfl
          have h19 : f_ 19 = (.pointer (some ⟨b1, off1 + i * 32, none⟩)) := hf_ 2 19 _ (by decide) rfl rfl
          have h20 : f_ 20 = (.agg (x.map cb).toArray) := hf_ 3 20 _ (by decide) rfl rfl
          have h21 : f_ 21 = (.slice (some ⟨b2, off2, none⟩) m c2) := hf_ 4 21 _ (by decide) rfl rfl
          have h22 : f_ 22 = (.int .i64 (i : Int)) := hf_ 5 22 _ (by decide) rfl rfl
          have h23 : f_ 23 = (.pointer (some ⟨b2, off2 + i * 32, none⟩)) := hf_ 6 23 _ (by decide) rfl rfl
          have h24 : f_ 24 = (.agg (y.map cb).toArray) := hf_ 7 24 _ (by decide) rfl rfl
          have h25 : f_ 25 = (.bool false) := hf_ 8 25 _ (by decide) rfl rfl
          simp only [mix, List.drop_succ_cons, List.drop_zero, h17, h18, h19, h20, h21, h22, h23, h24, h25]
          clear h17 h18 h19 h20 h21 h22 h23 h24 h25
          clear hf_
          have hb9 := bx_trans hbr hx_
          go_wp2
          go_roundw
          case rel => exact ⟨i + 1, by omega, by go_num, HT.out, hb9⟩
          case measure => simp [intOf]; omega
        · rw [show (x == y) = false by simpa using hxy] at heq
          have HE : Hid (R = false) := hid (by rw [HRR.out]; exact decide_eq_false (HNE.out hxy))
          clear hxy HTK HNE
          go_wp2_with fail
          refine wp_flow (by kernel_rfl) [0, 0, 3, 7, 0, 0, 48, 112, 255] 9 [false, false, false, false, false, false, false, false, false, false, false, false, false, false, false, false, false, true, true, true, true, true, true, true, true, true] (by kernel_rfl) (by decide) (by kernel_rfl) [FP.eq (.slice (some ⟨b1, off1, none⟩) m c1), FP.eq (.int .i64 (i : Int)), FP.eq (.pointer (some ⟨b1, off1 + i * 32, none⟩)), FP.eq (.agg (x.map cb).toArray), FP.eq (.slice (some ⟨b2, off2, none⟩) m c2), FP.eq (.int .i64 (i : Int)), FP.eq (.pointer (some ⟨b2, off2 + i * 32, none⟩)), FP.eq (.agg (y.map cb).toArray), FP.eq (.bool true)] ?_ ?_
          · refine allFrom_cons ?_ ?_
            · intro a_ w_ hk_
              have h0 : a_.eval (.tmp 0) = .slice (some ⟨b1, off1, none⟩) m c1 := hk_.old 0 (by kernel_rfl)
              have hx_ := hk_.ext
              clear hk_
              refine flow_plain rfl ?_
              exact gives_move rfl ⟨Below.refl _ _, h0⟩
            refine allFrom_cons ?_ ?_
            · intro a_ w_ hk_
              have h5 : a_.eval (.tmp 5) = .int .i64 (i : Int) := hk_.old 5 (by kernel_rfl)
              have hx_ := hk_.ext
              clear hk_
              refine flow_plain rfl ?_
              exact gives_move rfl ⟨Below.refl _ _, h5⟩
            refine allFrom_cons ?_ ?_
            · intro a_ w_ hk_
              have h17 : a_.eval (.tmp 17) = (.slice (some ⟨b1, off1, none⟩) m c1) := hk_.got 0 17 _ (by kernel_rfl) rfl rfl
              have h18 : a_.eval (.tmp 18) = (.int .i64 (i : Int)) := hk_.got 1 18 _ (by kernel_rfl) rfl rfl
              have hx_ := hk_.ext
              clear hk_
              refine flow_plain rfl ?_
              unfold gives
              have hc_ : ∀ v, a_.eval (.const v) = v := fun _ => rfl
              have hn_ : ∀ f, a_.eval (.func f) = .func (.func f) #[] #[] := fun _ => rfl
              generalize a_.eval = ρ_ at *
              go_simp
              exact ⟨Below.refl _ _, rfl⟩
            refine allFrom_cons ?_ ?_
            · intro a_ w_ hk_
              have h19 : a_.eval (.tmp 19) = (.pointer (some ⟨b1, off1 + i * 32, none⟩)) := hk_.got 2 19 _ (by kernel_rfl) rfl rfl
              have hx_ := hk_.ext
              clear hk_
              refine flow_plain rfl ?_
              exact gives_ldC rfl h19 hax (fun j v hv => (hx_.cell (p := ⟨b1, off1 + i * 32 + j, none⟩) hb1w).trans (HD1.out j v hv)) ⟨Below.refl _ _, rfl⟩
            refine allFrom_cons ?_ ?_
            · intro a_ w_ hk_
              have h1 : a_.eval (.tmp 1) = .slice (some ⟨b2, off2, none⟩) m c2 := hk_.old 1 (by kernel_rfl)
              have hx_ := hk_.ext
              clear hk_
              refine flow_plain rfl ?_
              exact gives_move rfl ⟨Below.refl _ _, h1⟩
            refine allFrom_cons ?_ ?_
            · intro a_ w_ hk_
              have h5 : a_.eval (.tmp 5) = .int .i64 (i : Int) := hk_.old 5 (by kernel_rfl)
              have hx_ := hk_.ext
              clear hk_
              refine flow_plain rfl ?_
              exact gives_move rfl ⟨Below.refl _ _, h5⟩
            refine allFrom_cons ?_ ?_
            · intro a_ w_ hk_
              have h21 : a_.eval (.tmp 21) = (.slice (some ⟨b2, off2, none⟩) m c2) := hk_.got 4 21 _ (by kernel_rfl) rfl rfl
              have h22 : a_.eval (.tmp 22) = (.int .i64 (i : Int)) := hk_.got 5 22 _ (by kernel_rfl) rfl rfl
              have hx_ := hk_.ext
              clear hk_
              refine flow_plain rfl ?_
              unfold gives
              have hc_ : ∀ v, a_.eval (.const v) = v := fun _ => rfl
              have hn_ : ∀ f, a_.eval (.func f) = .func (.func f) #[] #[] := fun _ => rfl
              generalize a_.eval = ρ_ at *
              go_simp
              exact ⟨Below.refl _ _, rfl⟩
            refine allFrom_cons ?_ ?_
            · intro a_ w_ hk_
              have h23 : a_.eval (.tmp 23) = (.pointer (some ⟨b2, off2 + i * 32, none⟩)) := hk_.got 6 23 _ (by kernel_rfl) rfl rfl
              have hx_ := hk_.ext
              clear hk_
              refine flow_plain rfl ?_
              exact gives_ldC rfl h23 hay (fun j v hv => (hx_.cell (p := ⟨b2, off2 + i * 32 + j, none⟩) hb2w).trans (HD2.out j v hv)) ⟨Below.refl _ _, rfl⟩
            refine allFrom_cons ?_ ?_
            · intro a_ w_ hk_
              have h20 : a_.eval (.tmp 20) = (.agg (x.map cb).toArray) := hk_.got 3 20 _ (by kernel_rfl) rfl rfl
              have h24 : a_.eval (.tmp 24) = (.agg (y.map cb).toArray) := hk_.got 7 24 _ (by kernel_rfl) rfl rfl
              have hx_ := hk_.ext
              clear hk_
              refine flow_plain rfl ?_
              unfold gives
              have hc_ : ∀ v, a_.eval (.const v) = v := fun _ => rfl
              have hn_ : ∀ f, a_.eval (.func f) = .func (.func f) #[] #[] := fun _ => rfl
              generalize a_.eval = ρ_ at *
              go_simp
              exact ⟨Below.refl _ _, rfl⟩
            exact allFrom_nil
          intro f_ w_ hx_ hf_
          have h17 : f_ 17 = (.slice (some ⟨b1, off1, none⟩) m c1) := hf_ 0 17 _ (by decide) rfl rfl
          have h18 : f_ 18 = (.int .i64 (i : Int)) := hf_ 1 18 _ (by decide) rfl rfl
          have h19 : f_ 19 = (.pointer (some ⟨b1, off1 + i * 32, none⟩)) := hf_ 2 19 _ (by decide) rfl rfl
          have h20 : f_ 20 = (.agg (x.map cb).toArray) := hf_ 3 20 _ (by decide) rfl rfl
          have h21 : f_ 21 = (.slice (some ⟨b2, off2, none⟩) m c2) := hf_ 4 21 _ (by decide) rfl rfl
          have h22 : f_ 22 = (.int .i64 (i : Int)) := hf_ 5 22 _ (by decide) rfl rfl
          have h23 : f_ 23 = (.pointer (some ⟨b2, off2 + i * 32, none⟩)) := hf_ 6 23 _ (by decide) rfl rfl
          have h24 : f_ 24 = (.agg (y.map cb).toArray) := hf_ 7 24 _ (by decide) rfl rfl
          have h25 : f_ 25 = (.bool true) := hf_ 8 25 _ (by decide) rfl rfl
          simp only [mix, List.drop_succ_cons, List.drop_zero, h17, h18, h19, h20, h21, h22, h23, h24, h25]
          clear h17 h18 h19 h20 h21 h22 h23 h24 h25
          clear hf_
          have hb9 := bx_trans hbr hx_
          go_wp2
          go_ret
          exact ⟨by rw [HE.out]; rfl, hb9⟩
      · have hil : i = m := by omega
        subst hil
        have HE : Hid (R = true) := hid (by
          rw [HRR.out]
          refine decide_eq_true ?_
          have := HS.out
          rw [HM.out, List.take_length, HL.out, List.take_length] at this
          exact this)
        clear HS
        go_wp2
        go_ret
        exact ⟨by rw [HE.out]; rfl, hbr⟩
  · have HE : Hid (R = false) := hid (by
      rw [HRR.out]
      exact decide_eq_false (fun h => hl (by rw [h])))
    have hne : ((P.length : Int) == (Q.length : Int)) = false := by simp; omega
    go_enter Tryd.func14, Tryd.ntmps14
    go_wp2
    go_ret
    exact ⟨by rw [HE.out]; rfl, Below.refl _ _⟩
end Go.Proofs.YtohkfnmggmlogaaDoor
