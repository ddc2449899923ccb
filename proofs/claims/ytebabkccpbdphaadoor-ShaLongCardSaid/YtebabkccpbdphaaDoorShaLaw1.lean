/- ShaLong: its walk. -/
import Derived.Test.YtebabkccpbdphaaDoorShaJ
namespace Go.Proofs.YtebabkccpbdphaaDoor
open Go.RowKit
set_option linter.unusedVariables false
set_option maxRecDepth 100000 in
set_option maxHeartbeats 1000000 in
theorem ShaLong_walk (w : World) (hL : Laid w) (A : Option Addr) (c : Nat) (ls : List (List UInt8)) (hc : ls.length ≤ c) (_hm : c ≤ maxLen) (hs : ∀ l ∈ ls, l.length ≤ maxLen) (hr : RdBB w w.heap.size A ls) :
    Calls Tryd.prog 5 #[.slice A ls.length c] w fun e w' => e = .returned (.bool true) ∧ Below w.heap.size w w' := by
  unfold maxLen at _hm hs
  have HL := hid hL
  clear hL
  go_enter Tryd.func5, Tryd.ntmps5
  go_wp2_with fail
  refine (awake_any _ HL.out).mono ?_
  rintro e w1 ⟨rfl, hb1⟩
  by_cases hbig : 20 < ls.length
  · go_wp2_with fail
    go_ret
    exact ⟨rfl, hb1⟩
  · go_wp2_with fail
    go_loopw [4, 5] (fun v i wr => ∃ k : Nat, k ≤ ls.length ∧ i = .int .i64 k ∧ wr.ownsRow w.heap.size 5 1 v (ls.take k).flatten.length ((ls.take k).flatten.map cb) ∧ (∀ l ∈ ls.take k, l.length ≤ 100) ∧ (ls.take k).flatten.length ≤ 100 * k ∧ Below w.heap.size w wr) (fun _ i _ => ls.length - (intOf i).toNat)
    case atStart => exact ⟨0, by omega, rfl, World.ownsRow_nil _ _ _ _, by simp, by simp, hb1⟩
    case round =>
      obtain ⟨k, hk, rfl, hown, hall, hlen, hbr⟩ := hrel
      by_cases hlt : k < ls.length
      · obtain ⟨b, off, A', c', rfl, hbb, hcell, hc', hrd⟩ := (hr.below hbr).at_ hlt
        have hll := hs ls[k] (List.getElem_mem _)
        have hts : (ls.take (k + 1)).flatten = (ls.take k).flatten ++ ls[k] := by rw [List.take_succ_eq_append_getElem hlt, List.flatten_append]; simp
        have hts2 : ls.take (k + 1) = ls.take k ++ [ls[k]] := by rw [List.take_succ_eq_append_getElem hlt]
        have HTS := hid hts
        have HTS2 := hid hts2
        have HALL := hid hall
        have HOWN := hid hown
        clear hts hts2 hs hall hown
        generalize ls[k] = l at *
        by_cases hl : 100 < l.length
        · go_wp2
          go_ret
          exact ⟨rfl, hbr⟩
        · have h63 : (ls.take k).flatten.length + l.length ≤ maxLen := by unfold maxLen; omega
          have hby : ((ls.take k).flatten.length + l.length) * 1 ≤ 140737488355328 := by omega
          have hlm : (l.map cb).length = l.length * 1 := by simp
          go_wp2_with (at_builtin; refine wpList_app rfl _ _ _ rfl _ rfl _ _ _ rfl elB8 HOWN.out hrd hlm (one_cb l) h63 hby hbr.size ?_; intro v' w2 hown2 hg2 hat2)
          go_roundw
          case rel => exact ⟨k + 1, by omega, by go_num, by rw [HTS.out, List.map_append, List.length_append]; exact hown2, by rw [HTS2.out]; intro x hx; rcases List.mem_append.1 hx with hx | hx; exact HALL.out x hx; simp at hx; subst hx; omega, by rw [HTS.out, List.length_append]; omega, own_below hbr HOWN.out hg2⟩
          case measure => simp [intOf]; omega
      · obtain rfl : k = ls.length := by omega
        rw [List.take_length] at *
        have hfl9 : ls.flatten.length ≤ 2000 := by omega
        obtain ⟨fl, hfl⟩ : ∃ fl, fl = ls.flatten := ⟨_, rfl⟩
        rw [← hfl] at hown hlen hfl9
        have HFL := hid hfl
        clear hfl
        obtain ⟨A', c', rfl, hc', hm', hrd⟩ := own_form hown
        clear hown
        go_wp2_with fail
        refine (Of_any _ (HL.out.below hbr) (ls := ls) ((hr.below hbr).more hbr.size) (Nat.le_refl _) (by omega) (by rw [← HFL.out]; omega)).mono ?_
        rintro e w2 ⟨rfl, hb2⟩
        rw [← HFL.out]
        have hrow := rdBB_one (t := 22) (RdB.of (hrd.below hb2) hc') hb2.size
        have hbx : Below w.heap.size w (w2.alloc (.cells #[.slice A' fl.length c'] 22)) := bx_alloc (bx_trans hbr hb2) _
        go_wp2_with fail
        refine (Of_any _ (HL.out.below hbx) (ls := [fl]) hrow (Nat.le_refl _) (by simp) (by simp; omega)).mono ?_
        rintro e w3 ⟨rfl, hb3⟩
        rw [show ([fl] : List (List UInt8)).flatten = fl from by simp]
        have hbf := bx_trans hbx hb3
        have heq := eq_hash (shaL fl) (shaL fl) (shaL_length _) (shaL_length _)
        clear hrow hbx hb3 hb2 hrd hbr hall hlen
        generalize shaL fl = H at *
        go_wp2
        go_ret
        exact ⟨ret_val (by simp), hbf⟩
end Go.Proofs.YtebabkccpbdphaaDoor
