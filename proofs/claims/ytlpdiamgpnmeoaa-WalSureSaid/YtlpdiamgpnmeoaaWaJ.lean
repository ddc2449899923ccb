
/- Records: rows of bytes as one (turned from ShaD). -/
import Derived.Test.YtlpdiamgpnmeoaaWaI
import Derived.Lib.AppendZeros
namespace Go.Proofs.Ytlpdiamgpnmeoaa
open Go.RowKit
set_option linter.unusedVariables false

theorem zeroCells_size (n : Nat) : (Builtin.zeroCells #[Value.int .u8 0] n).size = n := by simp [Builtin.zeroCells]
set_option maxRecDepth 100000 in
set_option maxHeartbeats 1000000 in
theorem Grow_nil (w : World) (n : Nat) (hn : n ≤ 1000000000) : Calls Try.prog 49 #[.slice none 0 0, .int .i64 (n : Int)] w fun e w' => ∃ v, e = .returned v ∧ w'.ownsRow w.heap.size 5 1 v 0 [] ∧ Below w.heap.size w w' := by
  by_cases h0 : n = 0
  · subst h0
    go_enter Try.func49, Try.ntmps49
    go_wp2
    go_ret
    exact ⟨_, rfl, World.ownsRow_nil _ _ _ _, Below.refl _ _⟩
  · have hpos : 0 < n := by omega
    have hp : (0 : Int) < (n : Int) := by omega
    obtain ⟨i, z, hi, hz, hs, hb, hzz⟩ := elB8.info
    have hzs : z.cells = #[.int .u8 0] := hzz
    have h := Lib.run_append_nil_zeros (P := Try.prog) w 23 3 23 5 i z .i64 .i64 Try.underlying23 Try.underlying3 hi hz n hpos (by rw [hs]; decide) (by omega) (by rw [hb]; omega)
    have hge := grownCap_ge w n 0 5
    have hle := grownCap_le_maxLen w n 0 5 (by unfold maxLen; omega)
    have hown := World.ownsRow_made (e := 5) (size := 1) (base := w.heap.size) w.drew (Builtin.zeroCells z.cells n ++ Builtin.zeroCells z.cells (grownCap w n 0 5 - n)) (grownCap w n 0 5) (by simp) hle (by rw [hzs, Array.size_append, zeroCells_size, zeroCells_size]; omega)
    have hbel : Below w.heap.size w (w.drew.alloc (.cells (Builtin.zeroCells z.cells n ++ Builtin.zeroCells z.cells (grownCap w n 0 5 - n)) 5)) := bx_alloc (bx_drew (Below.refl _ _)) _
    have hsz : w.drew.heap.size = w.heap.size := by simp
    rw [hsz] at hown
    unfold maxLen at hle
    generalize Builtin.zeroCells z.cells n ++ Builtin.zeroCells z.cells (grownCap w n 0 5 - n) = cur at *
    generalize grownCap w n 0 5 = cap at *
    clear h0
    go_enter Try.func49, Try.ntmps49
    go_wp2_with (at_builtin; refine Lib.wpList_append_run _ rfl _ _ _ _ rfl _ _ rfl rfl _ _ h ?_)
    go_ret
    exact ⟨_, rfl, hown, hbel⟩
theorem take_flat {ls : List (List UInt8)} {k : Nat} (h : k < ls.length) : (ls.take (k + 1)).flatten = (ls.take k).flatten ++ ls[k] := by
  rw [List.take_succ_eq_append_getElem h, List.flatten_append]
  simp
theorem take_flat_le (ls : List (List UInt8)) (k : Nat) : (ls.take k).flatten.length ≤ ls.flatten.length := by
  conv => rhs; rw [← List.take_append_drop k ls, List.flatten_append, List.length_append]
  omega
set_option maxRecDepth 100000 in
set_option maxHeartbeats 600000 in
theorem Concat_any (w : World) {A : Option Addr} {c B' : Nat} {ls : List (List UInt8)} (hr : RdBB w B' A ls) (hB' : B' ≤ w.heap.size) (hn : ls.length ≤ 1000000000) (ht : ls.flatten.length ≤ 1000000000) :
    Calls Try.prog 31 #[.slice A ls.length c] w fun e w' => ∃ v, e = .returned v ∧ w'.ownsRow w.heap.size 5 1 v ls.flatten.length (ls.flatten.map cb) ∧ Below w.heap.size w w' := by
  have HR := hid hr
  clear hr
  go_enter Try.func31, Try.ntmps31
  go_wp2
  go_loopw [3, 11] (fun s j wr => ∃ k : Nat, k ≤ ls.length ∧ j = .int .i64 k ∧ s = .int .i64 ((ls.take k).flatten.length : Int) ∧ wr = w) (fun _ j _ => ls.length - (intOf j).toNat)
  case atStart => exact ⟨0, by omega, rfl, rfl, rfl⟩
  case round =>
    obtain ⟨k, hk, rfl, rfl, rfl⟩ := hrel
    by_cases hlt : k < ls.length
    · obtain ⟨b, off, A', c', rfl, hbb, hcell, hc', hrd⟩ := HR.out.at_ hlt
      have hts := take_flat hlt
      have hle := take_flat_le ls (k + 1)
      rw [hts, List.length_append] at hle
      have hsum : (((ls.take k).flatten.length : Nat) : Int) + (ls[k].length : Int) = (((ls.take (k + 1)).flatten.length : Nat) : Int) := by rw [hts, List.length_append]; omega
      have HSUM := hid hsum
      clear hts hrd
      generalize ls[k].length = m at *
      generalize (ls.take k).flatten.length = q at *
      clear hsum
      go_wp2
      go_roundw
      case rel => exact ⟨k + 1, by omega, by go_num, by rw [← HSUM.out], by first | rfl | trivial⟩
      case measure => simp [intOf]; omega
    · obtain rfl : k = ls.length := by omega
      rw [List.take_length]
      obtain ⟨T, hT⟩ : ∃ T, T = ls.flatten.length := ⟨_, rfl⟩
      rw [← hT]
      have hTb : T ≤ 1000000000 := by omega
      have HT := hid hT
      clear hT
      go_wp2_with fail
      refine (Grow_nil wr T hTb).mono ?_
      rintro e w2 ⟨v, rfl, hown, hb2⟩
      go_wp2
      go_loopw [6, 27] (fun s j wq => ∃ k : Nat, k ≤ ls.length ∧ j = .int .i64 k ∧ wq.ownsRow wr.heap.size 5 1 s (ls.take k).flatten.length ((ls.take k).flatten.map cb) ∧ Below wr.heap.size wr wq) (fun _ j _ => ls.length - (intOf j).toNat)
      case atStart => exact ⟨0, by omega, rfl, hown, hb2⟩
      case round =>
        obtain ⟨k, hk, rfl, hown, hbr⟩ := hrel
        by_cases hlt : k < ls.length
        · obtain ⟨b, off, A', c', rfl, hbb, hcell, hc', hrd⟩ := (HR.out.below (hbr.mono hB')).at_ hlt
          have hts := take_flat hlt
          have hle := take_flat_le ls (k + 1)
          rw [hts, List.length_append] at hle
          have HTS := hid hts
          clear hts
          generalize ls[k] = l at *
          have h63 : (ls.take k).flatten.length + l.length ≤ maxLen := by unfold maxLen; omega
          have hby : ((ls.take k).flatten.length + l.length) * 1 ≤ 140737488355328 := by omega
          have hlm : (l.map cb).length = l.length * 1 := by simp
          have HOWN := hid hown
          clear hown
          go_wp2_with (at_builtin; refine wpList_app rfl _ _ _ rfl _ rfl _ _ _ rfl elB8 HOWN.out hrd hlm (one_cb l) h63 hby hbr.size ?_; intro v' w3 hown3 hg3 hat3)
          go_roundw
          case rel => exact ⟨k + 1, by omega, by go_num, by rw [HTS.out, List.map_append, List.length_append]; exact hown3, own_below hbr HOWN.out hg3⟩
          case measure => simp [intOf]; omega
        · obtain rfl : k = ls.length := by omega
          rw [List.take_length] at hown
          go_wp2
          go_ret
          exact ⟨_, rfl, hown, hbr⟩
end Go.Proofs.Ytlpdiamgpnmeoaa
