
/- The document's text of a hash. -/
import Derived.Test.YtebabkccpbdphaaDoorShaT
namespace Go.Proofs.YtebabkccpbdphaaDoor
open Go.RowKit
set_option linter.unusedVariables false
def hexL : List UInt8 := [48, 49, 50, 51, 52, 53, 54, 55, 56, 57, 97, 98, 99, 100, 101, 102]
theorem hex_cut (n : Nat) (hn : n < 16) : (⟨hexL.toArray⟩ : ByteArray).extract n (n + 1) = ⟨#[dig n]⟩ := by
  have key : ∀ m : Fin 16, (hexL.drop m.val).take 1 = [dig m.val] := by decide
  rw [strCut, show n + 1 - n = 1 by omega, key ⟨n, hn⟩]
set_option maxRecDepth 10000 in
set_option maxHeartbeats 1000000 in
theorem rText_any (w : World) {h : List UInt8} (hl : h.length = 32) :
    Calls Tryd.prog 16 #[.agg (h.map cb).toArray] w fun e w' => e = .returned (.string ⟨(textL h).toArray⟩) ∧ Below w.heap.size w w' := by
  have hA : Blk (w.alloc (.cells (h.map cb).toArray tH)) w.heap.size tH (h.map cb).toArray := Blk.new w _ _
  have hb0 : Below w.heap.size w (w.alloc (.cells (h.map cb).toArray tH)) := bx_alloc (Below.refl _ _) _
  go_enter Tryd.func16, Tryd.ntmps16
  go_wp2
  generalize w.alloc (.cells (h.map cb).toArray tH) = w1 at *
  obtain ⟨g, hg⟩ : ∃ g, g = w.heap.size := ⟨_, rfl⟩
  rw [← hg] at hA ⊢
  clear hg
  go_loopw [4, 5] (fun v4 v5 wr => ∃ i : Nat, i ≤ 32 ∧ v4 = .string ⟨(textL (h.take i)).toArray⟩ ∧ v5 = .int .i64 (i : Int) ∧ Blk wr g tH (h.map cb).toArray ∧ Below w.heap.size w wr) (fun _ v5 _ => 32 - (intOf v5).toNat)
  case atStart => exact ⟨0, by omega, by rw [List.take_zero]; rfl, rfl, hA, hb0⟩
  case round =>
    obtain ⟨i, hi, rfl, rfl, hbk, hbr⟩ := hrel
    rename World => wo
    clear hA hb0
    by_cases hlt : i < 32
    · have hlt2 : i < h.length := by omega
      have htk := textL_take hlt2
      have hc : wo.cell? ⟨g, i, none⟩ = some (.int .u8 (h[i].toNat : Int)) := by
        rw [hbk.cell]
        simp [cb, hlt2]
      have hc255 := h[i].toNat_lt
      generalize h[i] = c at *
      obtain ⟨x, hx⟩ : ∃ x, x = c.toNat / 16 := ⟨_, rfl⟩
      obtain ⟨y, hy⟩ : ∃ y, y = c.toNat % 16 := ⟨_, rfl⟩
      have hx16 : x < 16 := by omega
      have hy16 : y < 16 := by omega
      rw [← hx, ← hy] at htk
      have hxi : ((c.toNat : Int) / 16) = (x : Int) := by omega
      have hyi : ((c.toNat : Int) % 16) = (y : Int) := by omega
      have hcx := hex_cut x hx16
      have hcy := hex_cut y hy16
      have hcat1 := strCat [dig x] [dig y]
      have hcat := strCat (textL (h.take i)) ([dig x] ++ [dig y])
      have htk2 : textL (h.take (i + 1)) = textL (h.take i) ++ ([dig x] ++ [dig y]) := htk
      rw [← htk2] at hcat
      have hsz := szs (textL (h.take i))
      rw [textL_length, List.length_take, Nat.min_eq_left (by omega)] at hsz
      have HB := hid hbr
      have HK := hid hbk
      obtain ⟨x1, hx1⟩ : ∃ x1, x1 = x + 1 := ⟨_, rfl⟩
      obtain ⟨y1, hy1⟩ : ∃ y1, y1 = y + 1 := ⟨_, rfl⟩
      rw [← hx1] at hcx
      rw [← hy1] at hcy
      have ex1 : (x : Int) + 1 = (x1 : Int) := by omega
      have ey1 : (y : Int) + 1 = (y1 : Int) := by omega
      have hx16' : (x1 : Int) ≤ 16 := by omega
      have hy16' : (y1 : Int) ≤ 16 := by omega
      have hxx : x ≤ x1 := by omega
      have hyy : y ≤ y1 := by omega
      have hnov1 : ¬ 9223372036854775807 < 1 + 1 := by omega
      have hnov : ¬ 9223372036854775807 < 2 * i + 2 := by omega
      have HCX := hid hcx
      have HCY := hid hcy
      have HC1 := hid hcat1
      have HC2 := hid hcat
      have HSZ := hid hsz
      have HEX := hid ex1
      have HEY := hid ey1
      clear htk htk2 hbk hbr hx1 hy1 hx hy hcx hcy hcat1 hcat hsz ex1 ey1
      go_wp2_with fail
      clear hxi hyi
      refine wp_flow (by kernel_rfl) [0, 0, 0, 0, 8, 30, 0, 0, 0, 256, 960, 2046, 4095, 8191] 13 [false, false, false, false, false, false, false, false, false, false, false, false, false, false, false, false, false, false, false, false, false, false, true, true, true, true, true, true, true, true, true, true, true, true, true] (by kernel_rfl) (by decide) (by kernel_rfl) [FP.eq (.string ⟨(textL (h.take i)).toArray⟩), FP.eq (.string ⟨hexL.toArray⟩), FP.eq (.int .i64 (x : Int)), FP.eq (.int .i64 (x : Int)), FP.eq (.int .i64 (x1 : Int)), FP.eq (.string ⟨#[dig x]⟩), FP.eq (.string ⟨hexL.toArray⟩), FP.eq (.int .i64 (y : Int)), FP.eq (.int .i64 (y : Int)), FP.eq (.int .i64 (y1 : Int)), FP.eq (.string ⟨#[dig y]⟩), FP.eq (.string ⟨([dig x] ++ [dig y]).toArray⟩), FP.eq (.string ⟨(textL (h.take (i + 1))).toArray⟩)] ?_ ?_
      · refine allFrom_cons ?_ ?_
        · intro a_ w_ hk_
          have h4 : a_.eval (.tmp 4) = .string ⟨(textL (h.take i)).toArray⟩ := hk_.old 4 (by kernel_rfl)
          have hx_ := hk_.ext
          clear hk_
          refine flow_plain rfl ?_
          exact gives_move rfl ⟨Below.refl _ _, h4⟩
        refine allFrom_cons ?_ ?_
        · intro a_ w_ hk_
          have h3 : a_.eval (.tmp 3) = .string ⟨hexL.toArray⟩ := hk_.old 3 (by kernel_rfl)
          have hx_ := hk_.ext
          clear hk_
          refine flow_plain rfl ?_
          exact gives_move rfl ⟨Below.refl _ _, h3⟩
        refine allFrom_cons ?_ ?_
        · intro a_ w_ hk_
          have h6 : a_.eval (.tmp 6) = .int .i64 (x : Int) := hk_.old 6 (by kernel_rfl)
          have hx_ := hk_.ext
          clear hk_
          refine flow_plain rfl ?_
          exact gives_move rfl ⟨Below.refl _ _, h6⟩
        refine allFrom_cons ?_ ?_
        · intro a_ w_ hk_
          have h6 : a_.eval (.tmp 6) = .int .i64 (x : Int) := hk_.old 6 (by kernel_rfl)
          have hx_ := hk_.ext
          clear hk_
          refine flow_plain rfl ?_
          exact gives_move rfl ⟨Below.refl _ _, h6⟩
        refine allFrom_cons ?_ ?_
        · intro a_ w_ hk_
          have h25 : a_.eval (.tmp 25) = (.int .i64 (x : Int)) := hk_.got 3 25 _ (by kernel_rfl) rfl rfl
          have hx_ := hk_.ext
          clear hk_
          refine flow_plain rfl ?_
          unfold gives
          have hc_ : ∀ v, a_.eval (.const v) = v := fun _ => rfl
          have hn_ : ∀ f, a_.eval (.func f) = .func (.func f) #[] #[] := fun _ => rfl
          generalize a_.eval = ρ_ at *
          go_simp
          exact ⟨Below.refl _ _, congrArg (Value.int _) ((wr_i64 _ (by omega) (by omega)).trans HEX.out)⟩
        refine allFrom_cons ?_ ?_
        · intro a_ w_ hk_
          have h23 : a_.eval (.tmp 23) = (.string ⟨hexL.toArray⟩) := hk_.got 1 23 _ (by kernel_rfl) rfl rfl
          have h24 : a_.eval (.tmp 24) = (.int .i64 (x : Int)) := hk_.got 2 24 _ (by kernel_rfl) rfl rfl
          have h26 : a_.eval (.tmp 26) = (.int .i64 (x1 : Int)) := hk_.got 4 26 _ (by kernel_rfl) rfl rfl
          have hx_ := hk_.ext
          clear hk_
          refine flow_plain rfl ?_
          unfold gives
          have hc_ : ∀ v, a_.eval (.const v) = v := fun _ => rfl
          have hn_ : ∀ f, a_.eval (.func f) = .func (.func f) #[] #[] := fun _ => rfl
          have hcc := HCX.out
          have hzz := szs hexL
          have hzl : hexL.length = 16 := rfl
          generalize a_.eval = ρ_ at *
          go_simp
          exact ⟨Below.refl _ _, rfl⟩
        refine allFrom_cons ?_ ?_
        · intro a_ w_ hk_
          have h3 : a_.eval (.tmp 3) = .string ⟨hexL.toArray⟩ := hk_.old 3 (by kernel_rfl)
          have hx_ := hk_.ext
          clear hk_
          refine flow_plain rfl ?_
          exact gives_move rfl ⟨Below.refl _ _, h3⟩
        refine allFrom_cons ?_ ?_
        · intro a_ w_ hk_
          have h7 : a_.eval (.tmp 7) = .int .i64 (y : Int) := hk_.old 7 (by kernel_rfl)
          have hx_ := hk_.ext
          clear hk_
          refine flow_plain rfl ?_
          exact gives_move rfl ⟨Below.refl _ _, h7⟩
        refine allFrom_cons ?_ ?_
        · intro a_ w_ hk_
          have h7 : a_.eval (.tmp 7) = .int .i64 (y : Int) := hk_.old 7 (by kernel_rfl)
          have hx_ := hk_.ext
          clear hk_
          refine flow_plain rfl ?_
          exact gives_move rfl ⟨Below.refl _ _, h7⟩
        refine allFrom_cons ?_ ?_
        · intro a_ w_ hk_
          have h30 : a_.eval (.tmp 30) = (.int .i64 (y : Int)) := hk_.got 8 30 _ (by kernel_rfl) rfl rfl
          have hx_ := hk_.ext
          clear hk_
          refine flow_plain rfl ?_
          unfold gives
          have hc_ : ∀ v, a_.eval (.const v) = v := fun _ => rfl
          have hn_ : ∀ f, a_.eval (.func f) = .func (.func f) #[] #[] := fun _ => rfl
          generalize a_.eval = ρ_ at *
          go_simp
          exact ⟨Below.refl _ _, congrArg (Value.int _) ((wr_i64 _ (by omega) (by omega)).trans HEY.out)⟩
        refine allFrom_cons ?_ ?_
        · intro a_ w_ hk_
          have h28 : a_.eval (.tmp 28) = (.string ⟨hexL.toArray⟩) := hk_.got 6 28 _ (by kernel_rfl) rfl rfl
          have h29 : a_.eval (.tmp 29) = (.int .i64 (y : Int)) := hk_.got 7 29 _ (by kernel_rfl) rfl rfl
          have h31 : a_.eval (.tmp 31) = (.int .i64 (y1 : Int)) := hk_.got 9 31 _ (by kernel_rfl) rfl rfl
          have hx_ := hk_.ext
          clear hk_
          refine flow_plain rfl ?_
          unfold gives
          have hc_ : ∀ v, a_.eval (.const v) = v := fun _ => rfl
          have hn_ : ∀ f, a_.eval (.func f) = .func (.func f) #[] #[] := fun _ => rfl
          have hcc := HCY.out
          have hzz := szs hexL
          have hzl : hexL.length = 16 := rfl
          generalize a_.eval = ρ_ at *
          go_simp
          exact ⟨Below.refl _ _, rfl⟩
        refine allFrom_cons ?_ ?_
        · intro a_ w_ hk_
          have h27 : a_.eval (.tmp 27) = (.string ⟨#[dig x]⟩) := hk_.got 5 27 _ (by kernel_rfl) rfl rfl
          have h32 : a_.eval (.tmp 32) = (.string ⟨#[dig y]⟩) := hk_.got 10 32 _ (by kernel_rfl) rfl rfl
          have hx_ := hk_.ext
          clear hk_
          refine flow_plain rfl ?_
          unfold gives
          have hc_ : ∀ v, a_.eval (.const v) = v := fun _ => rfl
          have hn_ : ∀ f, a_.eval (.func f) = .func (.func f) #[] #[] := fun _ => rfl
          have hcc := HC1.out
          generalize a_.eval = ρ_ at *
          go_simp
          exact ⟨Below.refl _ _, rfl⟩
        refine allFrom_cons ?_ ?_
        · intro a_ w_ hk_
          have h22 : a_.eval (.tmp 22) = (.string ⟨(textL (h.take i)).toArray⟩) := hk_.got 0 22 _ (by kernel_rfl) rfl rfl
          have h33 : a_.eval (.tmp 33) = (.string ⟨([dig x] ++ [dig y]).toArray⟩) := hk_.got 11 33 _ (by kernel_rfl) rfl rfl
          have hx_ := hk_.ext
          clear hk_
          refine flow_plain rfl ?_
          unfold gives
          have hc_ : ∀ v, a_.eval (.const v) = v := fun _ => rfl
          have hn_ : ∀ f, a_.eval (.func f) = .func (.func f) #[] #[] := fun _ => rfl
          have hzz := HSZ.out
          generalize a_.eval = ρ_ at *
          go_simp
          exact ⟨Below.refl _ _, congrArg Value.string HC2.out⟩
        exact allFrom_nil
      intro f_ w_ hx_ hf_
      have h22 : f_ 22 = (.string ⟨(textL (h.take i)).toArray⟩) := hf_ 0 22 _ (by decide) rfl rfl
      have h23 : f_ 23 = (.string ⟨hexL.toArray⟩) := hf_ 1 23 _ (by decide) rfl rfl
      have h24 : f_ 24 = (.int .i64 (x : Int)) := hf_ 2 24 _ (by decide) rfl rfl
      have h25 : f_ 25 = (.int .i64 (x : Int)) := hf_ 3 25 _ (by decide) rfl rfl
      have h26 : f_ 26 = (.int .i64 (x1 : Int)) := hf_ 4 26 _ (by decide) rfl rfl
      have h27 : f_ 27 = (.string ⟨#[dig x]⟩) := hf_ 5 27 _ (by decide) rfl rfl
      have h28 : f_ 28 = (.string ⟨hexL.toArray⟩) := hf_ 6 28 _ (by decide) rfl rfl
      have h29 : f_ 29 = (.int .i64 (y : Int)) := hf_ 7 29 _ (by decide) rfl rfl
      have h30 : f_ 30 = (.int .i64 (y : Int)) := hf_ 8 30 _ (by decide) rfl rfl
      have h31 : f_ 31 = (.int .i64 (y1 : Int)) := hf_ 9 31 _ (by decide) rfl rfl
      have h32 : f_ 32 = (.string ⟨#[dig y]⟩) := hf_ 10 32 _ (by decide) rfl rfl
      have h33 : f_ 33 = (.string ⟨([dig x] ++ [dig y]).toArray⟩) := hf_ 11 33 _ (by decide) rfl rfl
      have h34 : f_ 34 = (.string ⟨(textL (h.take (i + 1))).toArray⟩) := hf_ 12 34 _ (by decide) rfl rfl
      simp only [mix, List.drop_succ_cons, List.drop_zero, h22, h23, h24, h25, h26, h27, h28, h29, h30, h31, h32, h33, h34]
      clear h22 h23 h24 h25 h26 h27 h28 h29 h30 h31 h32 h33 h34
      clear hf_
      have HB9 := hid (bx_trans HB.out hx_)
      have HK9 := hid (HK.out.below hx_ HK.out.lt)
      clear hx_
      go_wp2
      go_roundw
      case rel => exact ⟨i + 1, by omega, rfl, by go_num, HK9.out, HB9.out⟩
      case measure => simp [intOf]; omega
    · have hi3 : i = 32 := by omega
      subst hi3
      rw [List.take_of_length_le (by omega)]
      go_wp2
      go_ret
      exact ⟨rfl, hbr⟩
end Go.Proofs.YtebabkccpbdphaaDoor
