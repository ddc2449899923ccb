
/- ChainProofs: its walk. -/
import Derived.Test.YtjkolpioglpigaaDoorChM
import Derived.Test.YtjkolpioglpigaaDoorChY
import Derived.OpenShut
namespace Go.Proofs.YtjkolpioglpigaaDoor
open Go.RowKit
set_option linter.unusedVariables false
/-- The end of ChainProofs: both proofs are there, and both lengths. -/
theorem sl_same (w : World) {v v' : Value} {B B' : Nat} {P : List (List UInt8)} (hP : ∀ x ∈ P, x.length = 32) (h20 : P.length ≤ 1000000)
    (h1 : w.ownsRow B 37 32 v P.length (P.flatten.map cb)) (h2 : w.ownsRow B' 37 32 v' P.length (P.flatten.map cb)) :
    Calls Tryd.prog 15 #[v, v'] w fun e w' => e = .returned (.bool true) ∧ Below w.heap.size w w' := by
  obtain ⟨A1, c1, rfl, _, _, r1⟩ := own_form h1
  obtain ⟨A2, c2, rfl, _, _, r2⟩ := own_form h2
  have := same_any w (c1 := c1) (c2 := c2) hP hP r1 r2 h20 h20
  rw [decide_eq_true rfl] at this
  exact this
set_option maxRecDepth 10000 in
set_option maxHeartbeats 2000000 in
theorem ChainProofs_walk (w : World) (hL : LaidC w) (A : Option Addr) (c : Nat) (ls : List (List UInt8)) (hc : ls.length ≤ c) (hm : c ≤ maxLen) (hs : ∀ l ∈ ls, l.length ≤ maxLen) (hr : RdBB w w.heap.size A ls) (i : Int) (hi : (Lit.int .i64 i).wf = true) (a0 : Int) (ha0 : (Lit.int .u64 a0).wf = true) (b0 : Int) (hb0 : (Lit.int .u64 b0).wf = true) :
    Calls Tryd.prog 3 #[.slice A ls.length c, .int .i64 i, .int .u64 a0, .int .u64 b0] w fun e w' => e = .returned (.bool true) ∧ Below w.heap.size w w' := by
  have hbm := bounds_u64 ha0
  have hbn := bounds_u64 hb0
  obtain ⟨a, rfl⟩ := Int.eq_ofNat_of_zero_le hbm.1
  obtain ⟨b, rfl⟩ := Int.eq_ofNat_of_zero_le hbn.1
  have ha : a < 18446744073709551616 := by omega
  have hb : b < 18446744073709551616 := by omega
  clear hbm hbn ha0 hb0 hi
  have HL := hid hL
  have HR := hid hr
  have HA := hid (fun w' => Long_any w' a b ha hb)
  have HB := hid (fun w' => rLong_any w' a b ha hb)
  clear hL hr hs ha hb
  go_enter Tryd.func3, Tryd.ntmps3
  go_wp2_with fail
  refine (chAwake w HL.out).mono ?_
  rintro e w1 ⟨rfl, hb1⟩
  go_wp2_with fail
  refine (few_any w1 ((HR.out.below hb1).more hb1.size) hc hm).mono ?_
  rintro e w2 ⟨rfl, rfl⟩
  cases hf : fewB ls with
  | false =>
    clear hf
    go_wp2
    go_ret
    exact ⟨rfl, hb1⟩
  | true =>
    obtain ⟨h20, hlen⟩ := fewB_len hf
    have HLEN := hid hlen
    have H60 := hid (fewB_60 hf)
    clear hf hlen
    have HT := hid (fun (w' : World) (h : Below w.heap.size w w') => texts_any w' ((HR.out.below h).more h.size) hc h20)
    obtain ⟨m, hm'⟩ : ∃ m, m = ls.length := ⟨_, rfl⟩
    have HM := hid hm'
    by_cases hin : 1 ≤ i ∧ i ≤ (ls.length : Int)
    · obtain ⟨k, rfl⟩ := Int.eq_ofNat_of_zero_le (show 0 ≤ i by omega)
      have hk1 : 1 ≤ k := by omega
      have hk2 : k ≤ m := by omega
      have hpl : (prf ls k true).length ≤ 1000000 := by
        rw [prf_long hk1 (by omega)]
        have := longN_le hk1 (show k ≤ ls.length by omega) (by omega)
        omega
      have hpo := prf_ok ls.length ls k true rfl
      have HP := hid (fun (w' : World) (h : Below w.heap.size w w') => Proof_any w' (HL.out.sha.below h) ls m A c k hm'.symm hk1 hk2 ((HR.out.below h).more h.size) (by omega) (by omega) (fun l hl => by have := HLEN.out l hl; omega) (by omega))
      have HQ := hid (fun (w' : World) (A : Option Addr) (c : Nat) (hr : Rd w' w'.heap.size A (ls.map sv)) (hc : m ≤ c) => rProof_any w' (A := A) (c := c) (i := k) hm'.symm hk1 hk2 hr hc (by omega) H60.out)
      rw [← hm'] at HT h20 hc ⊢
      generalize prf ls k true = pl at *
      clear hin hm'
      go_wp2_with fail
      refine (HP.out _ hb1).mono ?_
      rintro e w3 ⟨v, rfl, hown, hb3⟩
      have hb03 := bx_trans hb1 hb3
      go_wp2_with fail
      refine (HT.out w3 hb03).mono ?_
      rintro e w4 ⟨v4, rfl, hown4, hb4⟩
      have hown' := own_keep hown hb4
      have hb04 := bx_trans hb03 hb4
      obtain ⟨A4, c4, rfl, hc4, _, hrd4⟩ := own_form hown4
      clear hown hb1 hb3 hb4
      go_wp2_with fail
      refine (HQ.out w4 A4 c4 hrd4 hc4).mono ?_
      rintro e w5 ⟨v5, rfl, hown5, hb5⟩
      have hown'' := own_keep hown' hb5
      have hb05 := bx_trans hb04 hb5
      clear hown' hown4 hrd4 hb03 hb04 hb5
      go_wp2_with fail
      refine (sl_same w5 hpo hpl hown'' hown5).mono ?_
      rintro e w6 ⟨rfl, hb6⟩
      have hb06 := bx_trans hb05 hb6
      go_wp2_with fail
      refine (HA.out w6).mono ?_
      rintro e w7 ⟨rfl, hb7⟩
      have hb07 := bx_trans hb06 hb7
      go_wp2_with fail
      refine (HB.out w7).mono ?_
      rintro e w8 ⟨rfl, hb8⟩
      have hb08 := bx_trans hb07 hb8
      go_wp2
      go_ret
      exact ⟨rfl, hb08⟩
    · have hno : i < 1 ∨ (m : Int) < i := by omega
      have HP := hid (fun (w' : World) => Proof_no w' A m c i hno)
      have HQ := hid (fun (w' : World) (A : Option Addr) (c : Nat) => rProof_no w' A m c i hno)
      rw [← hm'] at HT h20 hc ⊢
      clear hin hm' hno
      go_wp2_with fail
      refine (HP.out _).mono ?_
      rintro e w3 ⟨rfl, rfl⟩
      go_wp2_with fail
      refine (HT.out _ hb1).mono ?_
      rintro e w4 ⟨v4, rfl, hown4, hb4⟩
      have hb04 := bx_trans hb1 hb4
      obtain ⟨A4, c4, rfl, hc4, _, hrd4⟩ := own_form hown4
      clear hown4 hrd4 hb4
      go_wp2_with fail
      refine (HQ.out w4 A4 c4).mono ?_
      rintro e w5 ⟨rfl, rfl⟩
      go_wp2_with fail
      refine (sl_same w4 (P := []) (B := 0) (B' := 0) (v := .slice none 0 0) (v' := .slice none 0 0) (by simp) (by simp) (nil_ownP _ _ _ _) (nil_ownP _ _ _ _)).mono ?_
      rintro e w6 ⟨rfl, hb6⟩
      have hb06 := bx_trans hb04 hb6
      go_wp2_with fail
      refine (HA.out w6).mono ?_
      rintro e w7 ⟨rfl, hb7⟩
      have hb07 := bx_trans hb06 hb7
      go_wp2_with fail
      refine (HB.out w7).mono ?_
      rintro e w8 ⟨rfl, hb8⟩
      have hb08 := bx_trans hb07 hb8
      go_wp2
      go_ret
      exact ⟨rfl, hb08⟩
end Go.Proofs.YtjkolpioglpigaaDoor
