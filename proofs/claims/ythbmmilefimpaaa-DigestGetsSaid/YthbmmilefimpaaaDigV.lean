
/- DigestGets: its walk. -/
import Derived.Test.YthbmmilefimpaaaDigU
import Derived.Test.YthbmmilefimpaaaDigP
namespace Go.Proofs.Ythbmmilefimpaaa
open Go.RowKit Go.Maps
set_option linter.unusedVariables false
theorem getOut_ok (b : List UInt8) : (∀ k ∈ (getOut b).2.1, kOk k) ∧ (∀ k ∈ (getOut b).2.2, hOk k) ∧ (getOut b).2.1.length ≤ 32 ∧ (getOut b).2.2.length ≤ 32 := by
  have hn : ∀ e : Int, (∀ k ∈ ((e, [], []) : Int × List Key × List (List UInt8)).2.1, kOk k) ∧ (∀ k ∈ ((e, [], []) : Int × List Key × List (List UInt8)).2.2, hOk k) ∧ ((e, [], []) : Int × List Key × List (List UInt8)).2.1.length ≤ 32 ∧ ((e, [], []) : Int × List Key × List (List UInt8)).2.2.length ≤ 32 := fun e => ⟨fun k h => (by cases h), fun k h => (by cases h), Nat.zero_le _, Nat.zero_le _⟩
  unfold getOut
  split
  · exact hn _
  · split
    · exact hn _
    · split
      · exact hn _
      · exact ⟨kList_ok _ _, hList_ok _ _, by rw [kList_len]; exact countV_le _, by rw [hList_len]; exact countV_le _⟩
set_option maxRecDepth 10000 in
set_option maxHeartbeats 1000000 in
theorem DigestGets_walk (w : World) (A0 : Option Addr) (c0 : Nat) (l0 : List UInt8) (hc0 : l0.length ≤ c0) (hm0 : c0 ≤ maxLen) (hr0 : Rd w w.heap.size A0 (l0.map cb)) :
    Calls Try.prog 5 #[.slice A0 l0.length c0] w fun e w' => e = .returned (.bool true) ∧ Below w.heap.size w w' := by
  unfold maxLen at hm0
  have HR0 := hid hr0
  have hpg := put_get (b := l0)
  have hok := getOut_ok l0
  have HPG := hid hpg
  have HOK := hid hok
  clear hr0 hpg hok
  go_enter Try.func5, Try.ntmps5
  go_wp2_with fail
  refine (awake_any w).mono ?_
  rintro e w1 ⟨rfl, hb1⟩
  by_cases hs0 : 600 < l0.length
  · go_wp2
    go_ret
    exact ⟨rfl, hb1⟩
  go_wp2_with fail
  refine (Get_any w1 ((HR0.out.below hb1).more hb1.size) (by omega)).mono ?_
  rintro e w2 ⟨vx, vy, rfl, hX2, hY2, hb2⟩
  have hrf := fun (w' : World) => refGet_any w' (b := l0) (by omega)
  generalize getOut l0 = G at *
  obtain ⟨ge, gk, gh⟩ := G
  obtain ⟨ok1, ok2, kl1, kl2⟩ := HOK.out
  simp only [] at ok1 ok2 kl1 kl2
  have OK1 := hid ok1
  have OK2 := hid ok2
  have HRF := hid hrf
  clear ok1 ok2 HOK hrf
  have hX2 : w2.ownsRow 0 54 33 vx gk.length (gk.map kc).flatten := own_more hX2 (Nat.zero_le _)
  have hY2 : w2.ownsRow 0 52 32 vy gh.length (gh.map hc).flatten := own_more hY2 (Nat.zero_le _)
  obtain ⟨AX, cX, rfl, _, _, _⟩ := own_form hX2
  obtain ⟨AY, cY, rfl, _, _, _⟩ := own_form hY2
  have hb02 := bx_trans hb1 hb2
  clear hb1 hb2
  go_wp2_with (first
    | ((with_reducible refine wpAt ?_); refine wpList_alloc (w := w2) rfl _ rfl zDg ?_; intro g10 w10 hg10 hg10' hz10 hb10; simp only [Act.put, List.setIfInBounds_toArray, List.set_cons_succ, List.set_cons_zero])
    | ((with_reducible refine wpAt ?_); refine storeD rfl rfl rfl rfl hz10 ?_; intro w11 hp11; simp only [Act.put]; have hb011 := bx_put (bx_trans hb02 hb10) hp11 (Nat.le_trans hb02.size hg10); have hcv := convB c0 ((HR0.out.below hb011).more hb011.size)))
  have hX11 := own_put (own_keep hX2 hb10) hz10 hp11 (by decide)
  have hY11 := own_put (own_keep hY2 hb10) hz10 hp11 (by decide)
  have hD11 := hp11.blk
  clear hX2 hY2 hb02 hz10 hb10 hp11 hcv
  refine (HRF.out w11).mono ?_
  rintro e w12 ⟨vu, vw, rfl, hU12, hW12, hb12⟩
  have hU12 : w12.ownsRow 0 54 33 vu gk.length (gk.map kc).flatten := own_more hU12 (Nat.zero_le _)
  have hW12 : w12.ownsRow 0 52 32 vw gh.length (gh.map hc).flatten := own_more hW12 (Nat.zero_le _)
  obtain ⟨AU, cU, rfl, _, _, _⟩ := own_form hU12
  obtain ⟨AW, cW, rfl, _, _, _⟩ := own_form hW12
  have hX12 := own_keep hX11 hb12
  have hY12 := own_keep hY11 hb12
  have hD12 := hD11.below hb12 hD11.lt
  have hb012 := bx_trans hb011 hb12
  clear hX11 hY11 hD11 hb011 hb12 HRF
  go_wp2_with (first
    | ((with_reducible refine wpAt ?_); refine wpList_alloc (w := w12) rfl _ rfl zDr ?_; intro g13 w13 hg13 hg13' hz13 hb13; simp only [Act.put, List.setIfInBounds_toArray, List.set_cons_succ, List.set_cons_zero])
    | ((with_reducible refine wpAt ?_); refine storeR rfl rfl rfl rfl hz13 ?_; intro w14 hp14; simp only [Act.put]; have hD14 := hp14.other (hD12.below hb13 hD12.lt) (by have := hD12.lt; omega); have cd0 := hD14.cell 0; have ce0 := hp14.blk.cell 0))
  have hX14 := own_put (own_keep hX12 hb13) hz13 hp14 (by decide)
  have hY14 := own_put (own_keep hY12 hb13) hz13 hp14 (by decide)
  have hU14 := own_put (own_keep hU12 hb13) hz13 hp14 (by decide)
  have hW14 := own_put (own_keep hW12 hb13) hz13 hp14 (by decide)
  have hE14 := hp14.blk
  have hb014 := bx_put (bx_trans hb012 hb13) hp14 (Nat.le_trans hb012.size hg13)
  clear hX12 hY12 hU12 hW12 hD12 hb012 hz13 hb13 hp14 cd0 ce0
  refine (SameK_any w14 OK1.out OK1.out (own_rd hX14) (own_rd hU14) (by omega) (by omega)).mono ?_
  rintro e w15 ⟨rfl, hb15⟩
  rw [decide_eq_true rfl]
  have hX15 := own_keep hX14 hb15
  have hY15 := own_keep hY14 hb15
  have hW15 := own_keep hW14 hb15
  have hD15 := hD14.below hb15 hD14.lt
  have hE15 := hE14.below hb15 hE14.lt
  have hb015 := bx_trans hb014 hb15
  have cd1 := hD15.cell 1
  have ce1 := hE15.cell 1
  clear hX14 hY14 hU14 hW14 hD14 hE14 hb014 hb15
  go_wp2_with fail
  refine (SameH_any w15 OK2.out OK2.out (own_rd hY15) (own_rd hW15) (by omega) (by omega)).mono ?_
  rintro e w16 ⟨rfl, hb16⟩
  rw [decide_eq_true rfl]
  have hX16 := own_keep hX15 hb16
  have hY16 := own_keep hY15 hb16
  have hD16 := hD15.below hb16 hD15.lt
  have hb016 := bx_trans hb015 hb16
  clear cd1 ce1 hX15 hY15 hW15 hD15 hE15 hb015 hb16
  by_cases hge : ge = 0
  · subst hge
    obtain ⟨hput, _, _⟩ := HPG.out rfl
    have hput : putB gk gh = l0 := hput
    have HPUT := hid hput
    clear hput HPG
    go_wp2_with ((with_reducible refine wpAt ?_); refine loadD rfl rfl rfl hD16 ?_; simp only [Act.put, List.setIfInBounds_toArray, List.set_cons_succ, List.set_cons_zero])
    refine (Put_any w16 OK1.out OK2.out (own_rd hX16) (own_rd hY16) kl1 kl2).mono ?_
    rintro e w17 ⟨vp, rfl, hP17, hb17⟩
    rw [HPUT.out] at hP17
    obtain ⟨AP, cP, rfl, _, _, _⟩ := own_form hP17
    have hb017 := bx_trans hb016 hb17
    have hcv1 := convB cP (own_rd hP17)
    have hcv2 := convB c0 ((HR0.out.below hb017).more hb017.size)
    clear hX16 hY16 hD16 hb016 hb17 hP17 HPUT
    go_wp2
    go_ret
    exact ⟨rfl, hb017⟩
  · clear HPG
    go_wp2
    go_ret
    exact ⟨rfl, hb016⟩
end Go.Proofs.Ythbmmilefimpaaa
