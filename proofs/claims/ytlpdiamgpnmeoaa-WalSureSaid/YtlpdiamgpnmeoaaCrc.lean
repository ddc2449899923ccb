
/- The sum of rows of bytes: the walk through crc.table and crc.Of. -/
import Derived.Test.YtlpdiamgpnmeoaaRows
import Derived.Test.YtlpdiamgpnmeoaaBase
import Derived.Test.YtlpdiamgpnmeoaaCrcMath
namespace Go.Proofs.Ytlpdiamgpnmeoaa
open Go.RowKit

def Z16 : Array Value := Array.replicate 16 (Value.int .u32 0)
theorem Z16_eq : #[Value.int IntKind.u32 0, Value.int IntKind.u32 0, Value.int IntKind.u32 0, Value.int IntKind.u32 0, Value.int IntKind.u32 0, Value.int IntKind.u32 0, Value.int IntKind.u32 0, Value.int IntKind.u32 0,
          Value.int IntKind.u32 0, Value.int IntKind.u32 0, Value.int IntKind.u32 0, Value.int IntKind.u32 0, Value.int IntKind.u32 0, Value.int IntKind.u32 0, Value.int IntKind.u32 0, Value.int IntKind.u32 0] = Z16 := rfl
def tabTo (k : Nat) : Array Value := ((List.range 16).map fun i => Value.int .u32 (if i < k then ((T4 i : Nat) : Int) else 0)).toArray
theorem tabTo_get (k i : Nat) (hi : i < 16) : (tabTo k)[i]? = some (.int .u32 (if i < k then ((T4 i : Nat) : Int) else 0)) := by
  simp [tabTo, hi]
theorem tabTo_step (k : Nat) (hk : k < 16) : (tabTo k).setIfInBounds k (.int .u32 ((T4 k : Nat) : Int)) = tabTo (k + 1) := by
  apply Array.ext_getElem?
  intro i
  rw [Array.getElem?_setIfInBounds]
  by_cases hi : i < 16
  · rw [tabTo_get _ _ hi, tabTo_get _ _ hi]
    by_cases e : k = i
    · subst e; simp [tabTo, hk]
    · have h2 : (i < k + 1) = (i < k) := by simp; omega
      simp [e, h2]
  · have h1 : (tabTo k)[i]? = none := by simp [tabTo]; omega
    have h2 : (tabTo (k + 1))[i]? = none := by simp [tabTo]; omega
    rw [h1, h2]
    by_cases e : k = i
    · omega
    · simp [e]
theorem agg16 : AggT Try.prog 98 16 := aggT_of Try.underlying98 rfl (by kernel_rfl)
theorem tabTo_size (k : Nat) : (tabTo k).size = 16 := by simp [tabTo]
theorem aggTab (k : Nat) : AggT Try.prog 98 (tabTo k).size := by rw [tabTo_size]; exact agg16
theorem aggTabL (k : Nat) : AggT Try.prog 98 (tabTo k).toList.length := by rw [Array.length_toList]; exact aggTab k
theorem tabTo_one (k : Nat) : ∀ v ∈ (tabTo k).toList, v.oneCell' = true := by
  intro v hv
  simp [tabTo] at hv
  obtain ⟨i, _, rfl⟩ := hv
  rfl
set_option maxHeartbeats 400000 in
theorem table_any (w : World) :
    Calls Try.prog 58 #[] w fun e w' => e = .returned (.agg (tabTo 16)) ∧ Below w.heap.size w w' := by
  go_enter Try.func58, Try.ntmps58
  go_wp2
  rw [Z16_eq]
  go_loopw [5] (fun i wr => ∃ k : Nat, k ≤ 16 ∧ i = .int .i64 k ∧ wr = (w.alloc (Obj.cells Z16 98)).alloc (.cells (tabTo k) 98)) (fun i _ => 16 - (intOf i).toNat)
  case atStart => exact ⟨0, by omega, rfl, rfl⟩
  case round =>
    obtain ⟨k, hk, rfl, rfl⟩ := hrel
    by_cases hlt : k < 16
    · go_wp2
      go_loopw [3, 10] (fun x j wr => ∃ m : Nat, m ≤ 4 ∧ j = .int .i64 m ∧ x = .int .u32 (stn k m : Nat) ∧ wr = (w.alloc (Obj.cells Z16 98)).alloc (.cells (tabTo k) 98)) (fun _ j _ => 4 - (intOf j).toNat)
      case atStart => exact ⟨0, by omega, rfl, rfl, rfl⟩
      case round =>
        obtain ⟨m, hm, rfl, rfl, rfl⟩ := hrel
        have hs := stn_lt (x := k) (by omega) m
        by_cases hm4 : m < 4
        · have hst := st_walk hs
          go_wp2
          go_roundw
          case rel => exact ⟨m + 1, by omega, by go_num, rfl, trivial⟩
          case measure => simp [intOf]; omega
        · obtain rfl : m = 4 := by omega
          have hget := tabTo_get k k hlt
          go_wp2
          go_roundw
          case rel => exact ⟨k + 1, by omega, by go_num, by rw [← tabTo_step k hlt]; rfl⟩
          case measure => simp [intOf]; omega
    · obtain rfl : k = 16 := by omega
      clear hk hlt
      have hB : Blk ((w.alloc (Obj.cells Z16 98)).alloc (.cells (tabTo 16) 98)) (w.heap.size + 1) 98 (tabTo 16) := by
        have := Blk.new (w.alloc (Obj.cells Z16 98)) 98 (tabTo 16)
        simpa using this
      have hA : Blk ((w.alloc (Obj.cells Z16 98)).alloc (.cells (tabTo 16) 98)) w.heap.size 98 Z16 := (Blk.new w _ _).alloc _
      have hb0 : Below w.heap.size w ((w.alloc (Obj.cells Z16 98)).alloc (.cells (tabTo 16) 98)) := ((Below.refl _ w).alloc (Nat.le_refl _) _).alloc (by simp) _
      have hsz : 0 + (tabTo 16).size ≤ Z16.size := by simp [tabTo_size, Z16]
      go_wp2_with (first | (refine wpList_load_agg rfl _ _ rfl _ _ rfl (tabTo 16).toList (aggTabL 16) (blk_cells hB) ?_) | (refine wpList_store_agg rfl _ _ _ rfl _ _ rfl (tabTo 16) rfl (aggTab 16) hA hsz (tabTo_one _) ?_; intro w1 hput))
      rw [spl_whole (by simp [tabTo_size, Z16])] at hput
      refine bodyPost_ret (results_agg rfl rfl (aggTabL 16) (blk_cells hput.blk)) rfl ⟨rfl, hb0.trans (hput.below (Nat.le_refl _))⟩

theorem Z16_size : Z16.size = 16 := by simp [Z16]
set_option maxHeartbeats 800000 in
theorem crcOf_any (w : World) (A : Option Addr) (c : Nat) (ls : List (List UInt8)) (hl : ls.length ≤ 140737488355328) (hls : ∀ l ∈ ls, l.length ≤ 140737488355328) (hr : RdBB w w.heap.size A ls) :
    Calls Try.prog 44 #[.slice A ls.length c] w fun e w' => e = .returned (.int .u32 (crc ls.flatten : Nat)) ∧ Below w.heap.size w w' := by
  have hsz : 0 + (tabTo 16).size ≤ Z16.size := by simp [tabTo_size, Z16]
  go_enter Try.func44, Try.ntmps44
  go_wp2_with fail
  refine (table_any w).mono ?_
  rintro e w1 ⟨rfl, hb1⟩
  have hA := Blk.new w1 98 Z16
  go_wp2_with (rw [Z16_eq]; refine wpList_store_agg rfl _ _ _ rfl _ _ rfl (tabTo 16) rfl (aggTab 16) hA hsz (tabTo_one _) ?_; intro w2 hput)
  rw [spl_whole (by simp [tabTo_size, Z16])] at hput
  have hb2 : Below w.heap.size w w2 := (hb1.alloc hb1.size _).trans (hput.below hb1.size)
  have hr2 := hr.below hb2
  have htab : ∀ i : Nat, i < 16 → w2.cell? ⟨w1.heap.size, i, none⟩ = some (.int .u32 (T4 i : Nat)) := by
    intro i hi
    rw [hput.blk.cell, tabTo_get _ _ hi, if_pos hi]
  have HT := hid htab
  have HB := hid hb2
  clear htab hput hA hsz hb1 hb2 hr
  go_loop [4, 12] (fun x i => ∃ k : Nat, k ≤ ls.length ∧ i = .int .i64 k ∧ x = .int .u32 (crcF 4294967295 (ls.take k).flatten : Nat)) (fun _ i => ls.length - (intOf i).toNat)
  case atStart => exact ⟨0, by omega, rfl, rfl⟩
  case round =>
    obtain ⟨k, hk, rfl, rfl⟩ := hrel
    have hx := crcF_lt (x := 4294967295) (by omega) (ls.take k).flatten
    by_cases hlt : k < ls.length
    · obtain ⟨b, off, A', c', rfl, hbb, hcell, hc', hrd⟩ := hr2.at_ hlt
      have hll := hls ls[k] (List.getElem_mem _)
      have hts : (ls.take (k + 1)).flatten = (ls.take k).flatten ++ ls[k] := by rw [List.take_succ_eq_append_getElem hlt, List.flatten_append]; simp
      have HTS := hid hts
      clear hts hr2
      generalize ls[k] = l at *
      go_wp2
      go_loop [4, 18] (fun x j => ∃ m : Nat, m ≤ l.length ∧ j = .int .i64 m ∧ x = .int .u32 (crcF (crcF 4294967295 (ls.take k).flatten) (l.take m) : Nat)) (fun _ j => l.length - (intOf j).toNat)
      case atStart => exact ⟨0, by omega, rfl, rfl⟩
      case round =>
        obtain ⟨m, hm, rfl, rfl⟩ := hrel
        have hy := crcF_lt hx (l.take m)
        by_cases hmt : m < l.length
        · have hrd' : m < (l.map cb).length := by simpa using hmt
          obtain ⟨b2, off2, rfl, hbb2, hc2⟩ := hrd.at_ hrd'
          have hcell2 := hc2 m (cb l[m]) (by simp [hmt])
          unfold cb at hcell2
          have hts : l.take (m + 1) = l.take m ++ [l[m]] := by rw [List.take_succ_eq_append_getElem hmt]
          have hstep : crcF (crcF 4294967295 (ls.take k).flatten) (l.take (m + 1)) = nb (nb (crcF (crcF 4294967295 (ls.take k).flatten) (l.take m) ^^^ l[m].toNat)) := by rw [hts, crcF_snoc]; rfl
          have HS := hid hstep
          clear hts hstep hc2
          have hu := u8_lt l[m]
          generalize l[m] = z at *
          generalize crcF (crcF 4294967295 (ls.take k).flatten) (l.take m) = y at *
          have e1 := xor_walk hy (show z.toNat < 4294967296 by omega)
          have hy1 := xor_lt32 hy (show z.toNat < 4294967296 by omega)
          generalize y ^^^ z.toNat = y1 at *
          have e2 := and15_walk hy1
          have e3 := HT.out (y1 % 16) (by omega)
          have e4 := nb_walk hy1
          have hy2 := nb_lt hy1
          generalize nb y1 = y2 at *
          have e5 := and15_walk hy2
          have e6 := HT.out (y2 % 16) (by omega)
          have e7 := nb_walk hy2
          go_wp2
          go_round
          case rel => exact ⟨m + 1, by omega, by go_num, by rw [HS.out]⟩
          case measure => simp [intOf]; omega
        · obtain rfl : m = l.length := by omega
          go_wp2
          go_round
          case rel => exact ⟨k + 1, by omega, by go_num, by rw [HTS.out, crcF_append, List.take_length]⟩
          case measure => simp [intOf]; omega
    · obtain rfl : k = ls.length := by omega
      rw [List.take_length] at *
      have e1 := not_walk hx
      go_wp2
      go_ret
      exact ⟨rfl, HB.out⟩
end Go.Proofs.Ytlpdiamgpnmeoaa
