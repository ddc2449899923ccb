
/- SHA-256: Text. -/
import Derived.Test.YtebabkccpbdphaaDoorShaH
namespace Go.Proofs.YtebabkccpbdphaaDoor
open Go.RowKit
set_option linter.unusedVariables false

theorem digits_run (n : Nat) (hn : n < 16) (w : World) : (Instr.index 9 (.string { data := #[48, 49, 50, 51, 52, 53, 54, 55, 56, 57, 97, 98, 99, 100, 101, 102] }) (.int .u8 (n : Int))).run Tryd.prog w = .ok (.int .u8 (((dig n).toNat : Nat) : Int)) w := by
  rw [run_index_string w 9 _ .u8 (n : Int) Tryd.underlying9]
  have h : n = 0 ∨ n = 1 ∨ n = 2 ∨ n = 3 ∨ n = 4 ∨ n = 5 ∨ n = 6 ∨ n = 7 ∨ n = 8 ∨ n = 9 ∨ n = 10 ∨ n = 11 ∨ n = 12 ∨ n = 13 ∨ n = 14 ∨ n = 15 := by omega
  rcases h with rfl | rfl | rfl | rfl | rfl | rfl | rfl | rfl | rfl | rfl | rfl | rfl | rfl | rfl | rfl | rfl <;> rfl
theorem shr4_u8 (x : UInt8) : ((x.toNat : Int) / 16) = ((x.toNat / 16 : Nat) : Int) := by omega
theorem and15_u8 (x : UInt8) : bits BinOp.and IntKind.u8 (x.toNat : Int) 15 = ((x.toNat % 16 : Nat) : Int) := by
  rw [show (15 : Int) = ((15 : Nat) : Int) from rfl, u8_and_nat _ _ x.toNat_lt (by omega)]
  congr 1
  exact Nat.and_two_pow_sub_one_eq_mod x.toNat 4
theorem textL_take {h : List UInt8} {k : Nat} (hk : k < h.length) : textL (h.take (k + 1)) = textL (h.take k) ++ [dig (h[k].toNat / 16), dig (h[k].toNat % 16)] := by
  unfold textL
  rw [List.take_succ_eq_append_getElem hk, List.flatMap_append]
  rfl
theorem textL_length (h : List UInt8) : (textL h).length = 2 * h.length := by
  induction h with
  | nil => rfl
  | cons x h ih => simp [textL] at *; omega
theorem own_keep {w w' : World} {base e size n : Nat} {v : Value} {xs : List Value} (h : w.ownsRow base e size v n xs) (hb : Below w.heap.size w w') : w'.ownsRow base e size v n xs := by
  refine h.kept (row := none) ⟨hb.os, hb.tape, hb.output, hb.size, fun k hk _ => hb.block k hk⟩ ?_
  cases hv : v.ownBlock with
  | none => exact .inl rfl
  | some a => exact .inr (by simp)
set_option maxRecDepth 100000 in
set_option maxHeartbeats 1000000 in
theorem Text_any (w : World) {h : List UInt8} (hh : h.length = 32) :
    Calls Tryd.prog 11 #[.agg (h.map cb).toArray] w fun e w' => e = .returned (.string ⟨(textL h).toArray⟩) ∧ Below w.heap.size w w' := by
  have hbx : Blk (w.alloc (.cells (h.map cb).toArray 26)) w.heap.size 26 (h.map cb).toArray := Blk.new w _ _
  have hb0 : Below w.heap.size w (w.alloc (.cells (h.map cb).toArray 26)) := bx_alloc (Below.refl _ _) _
  have hown0 : (w.alloc (.cells (h.map cb).toArray 26)).ownsRow w.heap.size 5 1 (.slice none 0 0) 0 ((textL (h.take 0)).map cb) := World.ownsRow_nil _ _ _ _
  have hhL := aggHL hh
  have hix : ∀ (k : Nat) (hk : k < 32) (w : World), (Instr.index 26 (.agg (h.map cb).toArray) (.int .i64 (k : Int))).run Tryd.prog w = .ok (.int .u8 ((h[k]'(by omega)).toNat : Int)) w := fun k hk w =>
    run_index_w (P := Tryd.prog) (size := 1) Tryd.underlying26 (by kernel_rfl) (by kernel_rfl) hk (by simp [cb, hh, hk]) w
  have HIX := hid hix
  clear hix
  go_enter Tryd.func11, Tryd.ntmps11
  go_wp2_with (refine wpList_load_agg rfl _ _ rfl _ _ rfl (h.map cb) hhL (blk_cells hbx) ?_)
  go_loopw [3, 7] (fun s j wr => ∃ k : Nat, k ≤ 32 ∧ j = .int .i64 k ∧ wr.ownsRow w.heap.size 5 1 s (2 * k) ((textL (h.take k)).map cb) ∧ Below w.heap.size w wr) (fun _ j _ => 32 - (intOf j).toNat)
  case atStart => exact ⟨0, by omega, rfl, hown0, hb0⟩
  case round =>
    obtain ⟨k, hk, rfl, hown, hbr⟩ := hrel
    clear hown0 hb0 hbx
    by_cases hlt : k < 32
    · have hix := HIX.out k hlt wr
      have hts := textL_take (h := h) (k := k) (by omega)
      have HTS := hid hts
      have hx8 := (h[k]'(by omega)).toNat_lt
      have hsh := shr4_u8 (h[k]'(by omega))
      have han := and15_u8 (h[k]'(by omega))
      clear hts
      generalize h[k]'(by omega) = x at *
      have hq16 : x.toNat / 16 < 16 := by omega
      have hr16 : x.toNat % 16 < 16 := by omega
      generalize x.toNat / 16 = q at *
      generalize x.toNat % 16 = r at *
      obtain ⟨A5, c5, rfl, hc5, hm5, hrd5⟩ := own_form hown
      have HO := hid hown
      clear hown hrd5
      go_wp2_with fail
      refine wp_flow (by kernel_rfl) [0, 0, 2, 6, 0, 16, 48, 126, 255, 511] 8 [false, false, false, false, false, false, false, false, false, false, true, true, true, true, true, true, true, true, false] (by kernel_rfl) (by decide) (by kernel_rfl) [FP.eq (.slice A5 (2 * k) c5), FP.eq (.int .u8 (x.toNat : Int)), FP.eq (.int .u8 (q : Int)), FP.eq (.int .u8 ((dig q).toNat : Int)), FP.eq (.int .u8 (x.toNat : Int)), FP.eq (.int .u8 (r : Int)), FP.eq (.int .u8 ((dig r).toNat : Int)), FP.bytes [dig q, dig r]] ?_ ?_
      · refine allFrom_cons ?_ ?_
        · intro a_ w_ hk_
          have h3 : a_.eval (.tmp 3) = .slice A5 (2 * k) c5 := hk_.old 3 (by kernel_rfl)
          have hx_ := hk_.ext
          clear hk_
          refine flow_plain rfl ?_
          exact gives_move rfl ⟨Below.refl _ _, h3⟩
        refine allFrom_cons ?_ ?_
        · intro a_ w_ hk_
          have h5 : a_.eval (.tmp 5) = .int .u8 (x.toNat : Int) := hk_.old 5 (by kernel_rfl)
          have hx_ := hk_.ext
          clear hk_
          refine flow_plain rfl ?_
          exact gives_move rfl ⟨Below.refl _ _, h5⟩
        refine allFrom_cons ?_ ?_
        · intro a_ w_ hk_
          have h11 : a_.eval (.tmp 11) = (.int .u8 (x.toNat : Int)) := hk_.got 1 11 _ (by kernel_rfl) rfl rfl
          have hx_ := hk_.ext
          clear hk_
          refine flow_plain rfl ?_
          unfold gives
          have hc_ : ∀ v, a_.eval (.const v) = v := fun _ => rfl
          have hn_ : ∀ f, a_.eval (.func f) = .func (.func f) #[] #[] := fun _ => rfl
          generalize a_.eval = ρ_ at *
          go_simp
          exact ⟨Below.refl _ _, rfl⟩
        refine allFrom_cons ?_ ?_
        · intro a_ w_ hk_
          have h12 : a_.eval (.tmp 12) = (.int .u8 (q : Int)) := hk_.got 2 12 _ (by kernel_rfl) rfl rfl
          have hx_ := hk_.ext
          clear hk_
          refine flow_plain rfl ?_
          unfold gives
          have hc_ : ∀ v, a_.eval (.const v) = v := fun _ => rfl
          have hn_ : ∀ f, a_.eval (.func f) = .func (.func f) #[] #[] := fun _ => rfl
          have hdg := digits_run q hq16 w_
          generalize a_.eval = ρ_ at *
          go_simp
          exact ⟨Below.refl _ _, rfl⟩
        refine allFrom_cons ?_ ?_
        · intro a_ w_ hk_
          have h5 : a_.eval (.tmp 5) = .int .u8 (x.toNat : Int) := hk_.old 5 (by kernel_rfl)
          have hx_ := hk_.ext
          clear hk_
          refine flow_plain rfl ?_
          exact gives_move rfl ⟨Below.refl _ _, h5⟩
        refine allFrom_cons ?_ ?_
        · intro a_ w_ hk_
          have h14 : a_.eval (.tmp 14) = (.int .u8 (x.toNat : Int)) := hk_.got 4 14 _ (by kernel_rfl) rfl rfl
          have hx_ := hk_.ext
          clear hk_
          refine flow_plain rfl ?_
          unfold gives
          have hc_ : ∀ v, a_.eval (.const v) = v := fun _ => rfl
          have hn_ : ∀ f, a_.eval (.func f) = .func (.func f) #[] #[] := fun _ => rfl
          generalize a_.eval = ρ_ at *
          go_simp
          exact ⟨Below.refl _ _, rfl⟩
        refine allFrom_cons ?_ ?_
        · intro a_ w_ hk_
          have h15 : a_.eval (.tmp 15) = (.int .u8 (r : Int)) := hk_.got 5 15 _ (by kernel_rfl) rfl rfl
          have hx_ := hk_.ext
          clear hk_
          refine flow_plain rfl ?_
          unfold gives
          have hc_ : ∀ v, a_.eval (.const v) = v := fun _ => rfl
          have hn_ : ∀ f, a_.eval (.func f) = .func (.func f) #[] #[] := fun _ => rfl
          have hdg := digits_run r hr16 w_
          generalize a_.eval = ρ_ at *
          go_simp
          exact ⟨Below.refl _ _, rfl⟩
        refine allFrom_cons ?_ ?_
        · intro a_ w_ hk_
          have h13 : a_.eval (.tmp 13) = (.int .u8 ((dig q).toNat : Int)) := hk_.got 3 13 _ (by kernel_rfl) rfl rfl
          have h16 : a_.eval (.tmp 16) = (.int .u8 ((dig r).toNat : Int)) := hk_.got 6 16 _ (by kernel_rfl) rfl rfl
          have hx_ := hk_.ext
          clear hk_
          refine flow_plain rfl ?_
          unfold gives
          have hc_ : ∀ v, a_.eval (.const v) = v := fun _ => rfl
          have hn_ : ∀ f, a_.eval (.func f) = .func (.func f) #[] #[] := fun _ => rfl
          generalize a_.eval = ρ_ at *
          go_simp
          exact ⟨bx_alloc (Below.refl _ _) _, rdB_of_row (heap_new rfl) rfl rfl (by simp)⟩
        exact allFrom_nil
      intro f_ w_ hx_ hf_
      have h10 : f_ 10 = (.slice A5 (2 * k) c5) := hf_ 0 10 _ (by decide) rfl rfl
      have h11 : f_ 11 = (.int .u8 (x.toNat : Int)) := hf_ 1 11 _ (by decide) rfl rfl
      have h12 : f_ 12 = (.int .u8 (q : Int)) := hf_ 2 12 _ (by decide) rfl rfl
      have h13 : f_ 13 = (.int .u8 ((dig q).toNat : Int)) := hf_ 3 13 _ (by decide) rfl rfl
      have h14 : f_ 14 = (.int .u8 (x.toNat : Int)) := hf_ 4 14 _ (by decide) rfl rfl
      have h15 : f_ 15 = (.int .u8 (r : Int)) := hf_ 5 15 _ (by decide) rfl rfl
      have h16 : f_ 16 = (.int .u8 ((dig r).toNat : Int)) := hf_ 6 16 _ (by decide) rfl rfl
      have h17 : (FP.bytes [dig q, dig r]).p (f_ 17) w_ := hf_ 7 17 _ (by decide) rfl rfl
      simp only [mix, List.drop_succ_cons, List.drop_zero, h10, h11, h12, h13, h14, h15, h16]
      clear h10 h11 h12 h13 h14 h15 h16
      clear hf_
      obtain ⟨A17, c17, h17, hc17, hrd17⟩ := h17
      rw [h17]
      have hown2 := own_keep HO.out hx_
      have hb2 := bx_trans hbr hx_
      have h63 : 2 * k + 2 ≤ maxLen := by unfold maxLen; omega
      have hby : (2 * k + 2) * 1 ≤ 140737488355328 := by omega
      have HO2 := hid hown2
      have HRD := hid hrd17
      have HB2 := hid hb2
      have hws := hb2.size
      clear hown2 hrd17 hb2 hx_ h17
      go_wp2_with (at_builtin; refine wpList_app rfl _ _ _ rfl _ rfl _ 2 c17 rfl elB8 HO2.out HRD.out rfl (one_cb [dig q, dig r]) h63 hby hws ?_; intro v6 w6 hown6 hg6 hat6)
      have hB6 : Below w.heap.size w w6 := own_below HB2.out HO2.out hg6
      go_roundw
      case rel => exact ⟨k + 1, by omega, by go_num, by rw [HTS.out, List.map_append]; exact hown6, hB6⟩
      case measure => simp [intOf]; omega
    · obtain rfl : k = 32 := by omega
      have ht32 : h.take 32 = h := List.take_of_length_le (by omega)
      rw [ht32] at hown
      obtain ⟨A5, c5, rfl, hc5, hm5, hrd5⟩ := own_form hown
      have htl := textL_length h
      have hcv := conv_str (P := Tryd.prog) (src := 22) (dst := 9) Tryd.underlying22 Tryd.underlying5 Tryd.underlying9 c5 hrd5
      rw [show (textL h).length = 2 * 32 from by omega] at hcv
      clear hrd5 hown htl ht32
      go_wp2
      go_ret
      exact ⟨rfl, hbr⟩
end Go.Proofs.YtebabkccpbdphaaDoor
