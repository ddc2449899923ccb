
/- The statements' own small functions: full, awake. -/
import Derived.Test.YtnbjoebdbbhbkaaDiskCrash
namespace Go.Proofs.Ytnbjoebdbbhbkaa
open Go.RowKit
set_option linter.unusedVariables false

def fullX (l : List UInt8) : List UInt8 := (List.range 256).map fun i => l.getD (i % l.length) 0
def fullR (l : List UInt8) (odd : Bool) : List UInt8 := if odd then (fullX l).take 255 else fullX l
theorem fullX_length (l : List UInt8) : (fullX l).length = 256 := by unfold fullX; rw [List.length_map, List.length_range]
theorem fullX_get (l : List UInt8) (k : Nat) (h : k < (fullX l).length) : (fullX l)[k] = l.getD (k % l.length) 0 := by simp [fullX]
theorem fullX_nil : fullX [] = zeros := by
  unfold fullX zeros
  rw [List.eq_replicate_iff]
  refine ⟨by rw [List.length_map, List.length_range], fun b hb => ?_⟩
  obtain ⟨i, _, rfl⟩ := List.mem_map.1 hb
  rfl
theorem fillTo_zeros (k : Nat) (hk : k ≤ 256) : fillTo zeros k = (zeros.map cb).toArray := by
  apply Array.toList_inj.1
  unfold fillTo zeros
  simp only [List.take_replicate, List.map_replicate, List.length_replicate, Nat.min_eq_left hk]
  rw [List.replicate_append_replicate]
  congr 1
  omega
theorem fullX_nil' {l : List UInt8} (h : l.length = 0) : fullX l = zeros := by
  have : l = [] := List.eq_nil_of_length_eq_zero h
  subst this
  exact fullX_nil
set_option maxRecDepth 100000 in
set_option maxHeartbeats 1000000 in
theorem full_any (w : World) {A : Option Addr} {c B' : Nat} {l : List UInt8} (hr : Rd w B' A (l.map cb)) (hB' : B' ≤ w.heap.size) (hl : l.length ≤ maxLen) (odd : Bool) :
    Calls Try.prog 12 #[.slice A l.length c, .bool odd] w fun e w' => ∃ g, e = .returned (.slice (some ⟨g, 0, none⟩) (fullR l odd).length 256) ∧ w.heap.size ≤ g ∧ Blk w' g 5 ((fullX l).map cb).toArray ∧ Below w.heap.size w w' := by
  unfold maxLen at hl
  have hmk : ∀ w : World, (Instr.makeSlice 22 (.int .i64 256) (.int .i64 256)).run Try.prog w = .ok (.slice (some ⟨w.heap.size, 0, none⟩) 256 256) (w.alloc (.cells (zrow 256 (.int .u8 0)) 5)) := run_mk1 elU8 .i64 .i64 256 (by decide) (by decide)
  have hXL := fullX_length l
  have hXG := fullX_get l
  have hRL : (fullR l odd).length = if odd then 255 else 256 := by unfold fullR; split <;> simp [hXL]
  have HRL := hid hRL
  have hX0 : 0 < l.length ∨ fullX l = zeros := by
    rcases Nat.eq_zero_or_pos l.length with h | h
    · exact .inr (fullX_nil' h)
    · exact .inl h
  have HXG := hid hXG
  have HX0 := hid hX0
  clear hRL hXG hX0
  generalize fullX l = X at *
  go_enter Try.func12, Try.ntmps12
  go_wp2
  go_loopw [6] (fun j wr => ∃ k : Nat, k ≤ 256 ∧ j = .int .i64 k ∧ Blk wr w.heap.size 5 (fillTo X k) ∧ Below w.heap.size w wr) (fun j _ => 256 - (intOf j).toNat)
  case atStart => exact ⟨0, by omega, rfl, by rw [fillTo_zero, hXL]; exact Blk.new w _ _, bx_alloc (Below.refl _ _) _⟩
  case round =>
    obtain ⟨k, hk, rfl, hblk, hbr⟩ := hrel
    by_cases hlt : k < 256 ∧ 0 < l.length
    · obtain ⟨hlt, hpos⟩ := hlt
      have hm : k % l.length < l.length := Nat.mod_lt _ hpos
      obtain ⟨b, off, rfl, hbb, hd⟩ := hr.at_ (k := k % l.length) (by simpa using hm)
      have hcell : wr.cell? ⟨b, off + k % l.length, none⟩ = some (.int .u8 ((l.getD (k % l.length) 0).toNat : Int)) := by
        refine (hbr.cell (p := ⟨b, off + k % l.length, none⟩) (by show b < w.heap.size; omega)).trans (hd _ _ ?_)
        simp [cb, List.getD, hm]
      have hst := fillTo_step X k (by omega)
      have hgt := fillTo_get X k (by omega)
      rw [HXG.out k (by omega)] at hst
      have hg2 : wr.cell? ⟨w.heap.size, k, none⟩ = some (.int .u8 0) := by rw [hblk.cell]; exact hgt
      have hf2 := hblk.frozen k
      have hput := setCell_put hblk (i := k) (.int .u8 ((l.getD (k % l.length) 0).toNat : Int))
      rw [hst] at hput
      have HPUT := hid hput
      clear hst hgt hput hd hblk hr
      generalize l.getD (k % l.length) 0 = y at *
      have hmi : ((k : Int) % (l.length : Int)) = ((k % l.length : Nat) : Int) := by rw [Int.natCast_emod]
      have hmi0 : (0 : Int) ≤ ((k % l.length : Nat) : Int) := by omega
      generalize k % l.length = q at *
      go_wp2
      go_roundw
      case rel => exact ⟨k + 1, by omega, by go_num, HPUT.out.blk, bx_setCell hbr (Nat.le_refl _) _⟩
      case measure => simp [intOf]; omega
    · have hfin : Blk wr w.heap.size 5 (X.map cb).toArray := by
        rcases HX0.out with h | h
        · have : k = X.length := by omega
          subst this
          rwa [fillTo_all] at hblk
        · subst h
          rwa [fillTo_zeros k hk] at hblk
      have HF := hid hfin
      clear hfin hblk hr
      by_cases hk2 : k < 256
      · have hl0 : l.length = 0 := by omega
        rw [hl0]
        clear hlt hl
        cases odd with
        | true =>
          rw [if_pos rfl] at HRL
          go_wp2
          go_ret
          exact ⟨w.heap.size, by rw [HRL.out]; rfl, Nat.le_refl _, HF.out, hbr⟩
        | false =>
          rw [if_neg (by decide)] at HRL
          go_wp2
          go_ret
          exact ⟨w.heap.size, by rw [HRL.out]; rfl, Nat.le_refl _, HF.out, hbr⟩
      · obtain rfl : k = 256 := by omega
        clear hlt
        cases odd with
        | true =>
          rw [if_pos rfl] at HRL
          go_wp2
          go_ret
          exact ⟨w.heap.size, by rw [HRL.out]; rfl, Nat.le_refl _, HF.out, hbr⟩
        | false =>
          rw [if_neg (by decide)] at HRL
          go_wp2
          go_ret
          exact ⟨w.heap.size, by rw [HRL.out]; rfl, Nat.le_refl _, HF.out, hbr⟩
end Go.Proofs.Ytnbjoebdbbhbkaa
