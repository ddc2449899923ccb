
/- DigestPuts: its walk. -/
import Derived.Test.YthbmmilefimpaaaDigO
namespace Go.Proofs.Ythbmmilefimpaaa
open Go.RowKit Go.Maps
set_option linter.unusedVariables false
theorem convB {w : World} {B : Nat} {A : Option Addr} {l : List UInt8} (c : Nat) (hr : Rd w B A (l.map cb)) : (convert 37 9 (.slice A l.length c)).run Try.prog w = .ok (.string ⟨l.toArray⟩) w :=
  conv_str (P := Try.prog) (src := 37) (dst := 9) (l := l) Try.underlying37 Try.underlying5 Try.underlying9 c hr
theorem convN (w : World) : (convert 37 9 (.slice none 0 0)).run Try.prog w = .ok (.string ⟨#[]⟩) w := convB (l := []) 0 (Rd.nil w 0 none)
set_option maxRecDepth 10000 in
set_option maxHeartbeats 1000000 in
theorem DigestPuts_walk (w : World) (A0 : Option Addr) (c0 : Nat) (l0 : List Key) (hc0 : l0.length ≤ c0) (hm0 : c0 ≤ maxLen) (hx0 : ∀ k ∈ l0, kOk k) (hr0 : Rd w w.heap.size A0 (l0.map kc).flatten)
    (A1 : Option Addr) (c1 : Nat) (l1 : List (List UInt8)) (hc1 : l1.length ≤ c1) (hm1 : c1 ≤ maxLen) (hx1 : ∀ l ∈ l1, l.length = 32) (hr1 : Rd w w.heap.size A1 (l1.flatten.map cb)) :
    Calls Try.prog 4 #[.slice A0 l0.length c0, .slice A1 l1.length c1] w fun e w' => e = .returned (.bool true) ∧ Below w.heap.size w w' := by
  unfold maxLen at hm0 hm1
  rw [List.map_flatten] at hr1
  have HR0 := hid hr0
  have HR1 : Hid (Rd w w.heap.size A1 (l1.map hc).flatten) := hid hr1
  have HX0 := hid hx0
  have HX1 : Hid (∀ k ∈ l1, hOk k) := hid hx1
  clear hr0 hr1 hx0 hx1
  go_enter Try.func4, Try.ntmps4
  go_wp2_with fail
  refine (awake_any w).mono ?_
  rintro e w1 ⟨rfl, hb1⟩
  by_cases hs0 : 50 < l0.length
  · go_wp2
    go_ret
    exact ⟨rfl, hb1⟩
  by_cases hs1 : 50 < l1.length
  · go_wp2
    go_ret
    exact ⟨rfl, hb1⟩
  go_wp2_with (first
    | (with_reducible refine wpAt ?_; refine wpList_alloc rfl _ rfl zDg ?_; intro g10 w10 hg10 hg10' hz10 hb10; simp only [Act.put, List.setIfInBounds_toArray, List.set_cons_succ, List.set_cons_zero])
    | (with_reducible refine wpAt ?_; refine storeD rfl rfl rfl rfl hz10 ?_; intro w11 hp11; simp only [Act.put]; have hD11 := hp11.blk)
    | (with_reducible refine wpAt ?_; refine loadG rfl rfl rfl (by assumption) ?_; simp only [Act.put, List.setIfInBounds_toArray, List.set_cons_succ, List.set_cons_zero]))
  have hb011 := bx_put (bx_trans hb1 hb10) hp11 (Nat.le_trans hb1.size hg10)
  clear hb1 hz10 hb10 hp11
  by_cases hbig : 32 < l0.length ∨ 32 < l1.length
  · refine (Put_big w11 hbig).mono ?_
    rintro e w12 ⟨rfl, hb12⟩
    have hD12 := hD11.below hb12 hD11.lt
    have hb012 := bx_trans hb011 hb12
    clear hD11 hb011
    go_wp2_with (with_reducible refine wpAt ?_; refine loadG rfl rfl rfl (by assumption) ?_; simp only [Act.put, List.setIfInBounds_toArray, List.set_cons_succ, List.set_cons_zero])
    refine (digestOf_any w12).mono ?_
    rintro e w13 ⟨rfl, hb13⟩
    go_wp2_with fail
    refine (refPut_big w13 hbig).mono ?_
    rintro e w14 ⟨rfl, hb14⟩
    have hcv := convN w14
    go_wp2
    go_ret
    exact ⟨rfl, bx_trans (bx_trans hb012 hb13) hb14⟩
  · have hk0 : l0.length ≤ 32 := by omega
    have hk1 : l1.length ≤ 32 := by omega
    refine (Put_any w11 HX0.out HX1.out ((HR0.out.below hb011).more hb011.size) ((HR1.out.below hb011).more hb011.size) hk0 hk1).mono ?_
    rintro e w12 ⟨vp, rfl, hP12, hb12⟩
    obtain ⟨AP, cP, rfl, _, _, _⟩ := own_form hP12
    have hD12 := hD11.below hb12 hD11.lt
    have hb012 := bx_trans hb011 hb12
    clear hD11 hb011
    go_wp2_with (with_reducible refine wpAt ?_; refine loadG rfl rfl rfl (by assumption) ?_; simp only [Act.put, List.setIfInBounds_toArray, List.set_cons_succ, List.set_cons_zero])
    refine (digestOf_any w12).mono ?_
    rintro e w13 ⟨rfl, hb13⟩
    have hb013 := bx_trans hb012 hb13
    have hP13 := own_keep hP12 hb13
    clear hD12 hb012 hP12
    go_wp2_with fail
    refine (refPut_any w13 HX0.out HX1.out ((HR0.out.below hb013).more hb013.size) ((HR1.out.below hb013).more hb013.size) hk0 hk1).mono ?_
    rintro e w14 ⟨rfl, hb14⟩
    have hb014 := bx_trans hb013 hb14
    have hP14 := own_keep hP13 hb14
    have hgp := get_put HX0.out HX1.out hk0 hk1
    have hpl : (putB l0 l1).length ≤ 100000 := by
      unfold putB
      simp only [List.length_append, numL_len']
      rw [keysB_len HX0.out, hashesB_len HX1.out]
      omega
    generalize putB l0 l1 = pb at *
    have hcv := convB cP (own_rd hP14)
    have HGP := hid hgp
    clear hgp hP13 hb013
    go_wp2_with fail
    refine (Get_any w14 (own_rd hP14) (by omega)).mono ?_
    rintro e w15 ⟨vx, vy, rfl, hX15, hY15, hb15⟩
    rw [HGP.out] at hX15 hY15 ⊢
    have hX15 : w15.ownsRow 0 54 33 vx l0.length (l0.map kc).flatten := own_more hX15 (Nat.zero_le _)
    have hY15 : w15.ownsRow 0 52 32 vy l1.length (l1.map hc).flatten := own_more hY15 (Nat.zero_le _)
    obtain ⟨AX, cX, rfl, _, _, _⟩ := own_form hX15
    obtain ⟨AY, cY, rfl, _, _, _⟩ := own_form hY15
    have hb015 := bx_trans hb014 hb15
    clear hcv hP14 hb014
    go_wp2_with (first
      | (with_reducible refine wpAt ?_; refine wpList_alloc rfl _ rfl zDg ?_; intro g17 w17 hg17 hg17' hz17 hb17; simp only [Act.put, List.setIfInBounds_toArray, List.set_cons_succ, List.set_cons_zero])
      | (with_reducible refine wpAt ?_; refine storeD rfl rfl rfl rfl hz17 ?_; intro w18 hp18; simp only [Act.put]; have cd0 := hp18.blk.cell 0))
    have hX18 := own_put (own_keep hX15 hb17) hz17 hp18 (by decide)
    have hY18 := own_put (own_keep hY15 hb17) hz17 hp18 (by decide)
    have hD18 := hp18.blk
    have hb018 := bx_put (bx_trans hb015 hb17) hp18 (Nat.le_trans hb015.size hg17)
    clear hX15 hY15 hb015 hz17 hb17 cd0 hp18
    refine (SameK_any w18 HX0.out HX0.out (own_rd hX18) ((HR0.out.below hb018).more hb018.size) (by omega) (by omega)).mono ?_
    rintro e w19 ⟨rfl, hb19⟩
    rw [decide_eq_true rfl]
    have hY19 := own_keep hY18 hb19
    have hD19 := hD18.below hb19 hD18.lt
    have hb019 := bx_trans hb018 hb19
    have cd1 := hD19.cell 1
    clear hX18 hY18 hD18 hb018
    go_wp2_with fail
    refine (SameH_any w19 HX1.out HX1.out (own_rd hY19) ((HR1.out.below hb019).more hb019.size) (by omega) (by omega)).mono ?_
    rintro e w20 ⟨rfl, hb20⟩
    rw [decide_eq_true rfl]
    go_wp2
    go_ret
    exact ⟨rfl, bx_trans hb019 hb20⟩
end Go.Proofs.Ythbmmilefimpaaa
