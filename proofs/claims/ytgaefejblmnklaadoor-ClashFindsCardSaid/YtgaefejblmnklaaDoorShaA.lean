
/- SHA-256: its small functions. -/
import Derived.Test.YtgaefejblmnklaaDoorRows
import Derived.Test.YtgaefejblmnklaaDoorShaMath
import Derived.Test.YtgaefejblmnklaaDoorFlowQ
import Derived.Test.YtgaefejblmnklaaDoorBuild
namespace Go.Proofs.YtgaefejblmnklaaDoor
open Go.RowKit
set_option linter.unusedVariables false

theorem and31 (n : Nat) (h0 : 0 < n) (hn : n < 32) : bits BinOp.and IntKind.u64 (IntKind.u64.wrap (-(n : Int))) 31 = ((32 - n : Nat) : Int) := by
  have e : IntKind.u64.wrap (-(n : Int)) = ((18446744073709551616 - n : Nat) : Int) := by
    simp [IntKind.wrap, IntKind.bits, IntKind.signed]
    omega
  rw [e, show (31 : Int) = ((31 : Nat) : Int) from rfl, u64_and_nat _ _ (by omega) (by omega), show (31 : Nat) = 2 ^ 5 - 1 from rfl, Nat.and_two_pow_sub_one_eq_mod]
  congr 1
  omega
theorem shl_u32 (x s : Nat) (hs : s ≤ 32) : IntKind.u32.wrap ((x : Int) * 2 ^ (s : Int).toNat) = ((x * 2 ^ s % 4294967296 : Nat) : Int) := by
  simp [IntKind.wrap, IntKind.bits, IntKind.signed]
set_option maxHeartbeats 1000000 in
theorem rotL_any (w : World) (x n : Nat) (hx : x < 4294967296) (h0 : 0 < n) (hn : n < 32) : Calls Tryd.prog 40 #[.int .u32 (x : Int), .int .i64 (-(n : Int))] w fun e w' => e = .returned (.int .u32 ((rot x n : Nat) : Int)) ∧ w = w' := by
  have ha := and31 n h0 hn
  have hr : rot x n = (x * 2 ^ (32 - n) % 4294967296) ||| (x / 2 ^ n) := rfl
  have hlt : x / 2 ^ n < 4294967296 := Nat.lt_of_le_of_lt (Nat.div_le_self _ _) hx
  obtain ⟨s, hs⟩ : ∃ s : Nat, s = 32 - n := ⟨_, rfl⟩
  rw [← hs] at ha hr
  have hs32 : s ≤ 32 := by omega
  have hsn : (32 : Int) - (s : Int) = (n : Int) := by omega
  have hwn : IntKind.u64.wrap (n : Int) = (n : Int) := by
    simp [IntKind.wrap, IntKind.bits, IntKind.signed]
    omega
  have hn32 : n ≤ 32 := by omega
  have hsl := shl_u32 x s hs32
  clear hs
  go_enter Tryd.func40, Tryd.ntmps40
  go_wp2
  go_ret
  refine ⟨ret_val ?_, rfl⟩
  rw [hr, ← u32_or_nat _ _ (Nat.mod_lt _ (by omega)) hlt]
  simp
set_option maxHeartbeats 1000000 in
theorem down_any (w : World) (x n : Nat) (hx : x < 4294967296) (h0 : 0 < n) (hn : n < 32) : Calls Tryd.prog 39 #[.int .u32 (x : Int), .int .i64 (n : Int)] w fun e w' => e = .returned (.int .u32 ((rot x n : Nat) : Int)) ∧ w = w' := by
  go_enter Tryd.func39, Tryd.ntmps39
  go_wp2_with fail
  refine (rotL_any w x n hx h0 hn).mono ?_
  rintro e w1 ⟨rfl, rfl⟩
  go_wp2
  go_ret
  exact ⟨rfl, rfl⟩
/-- Numbers as cells. -/
def cw (x : Nat) : Value := .int .u32 (x : Int)
def wcells (W : List Nat) : Array Value := ((W ++ List.replicate (64 - W.length) 0).map cw).toArray
theorem wcells_size {W : List Nat} (h : W.length ≤ 64) : (wcells W).size = 64 := by simp [wcells]; omega
theorem wcells_get {W : List Nat} {k : Nat} (h : k < W.length) : (wcells W)[k]? = some (.int .u32 ((W.getD k 0 : Nat) : Int)) := by
  simp [wcells, h, List.getElem?_append, cw, List.getD]
theorem wcells_set {W : List Nat} (h : W.length < 64) (x : Nat) : (wcells W).setIfInBounds W.length (.int .u32 (x : Int)) = wcells (W ++ [x]) := by
  apply Array.toList_inj.1
  obtain ⟨m, hm⟩ : ∃ m, 64 - W.length = m + 1 := ⟨64 - W.length - 1, by omega⟩
  have hm' : 64 - (W ++ [x]).length = m := by simp; omega
  simp only [wcells, hm, hm', Array.toList_setIfInBounds]
  rw [List.map_append, List.set_append_right _ _ (by simp)]
  simp [List.replicate_succ, cw]
theorem wcells_nil : wcells [] = (List.replicate 64 (cw 0)).toArray := by simp [wcells]
theorem wcells_full {W : List Nat} (h : W.length = 64) : wcells W = (W.map cw).toArray := by simp [wcells, h]
theorem wfirst_length (b : List UInt8) (n : Nat) : (wfirst b n).length = n := by simp [wfirst]
theorem wfirst_succ (b : List UInt8) (n : Nat) : wfirst b (n + 1) = wfirst b n ++ [by4 b (4 * n)] := by simp [wfirst, List.range_succ]
theorem wmore_length (W : List Nat) (k : Nat) : (wmore W k).length = W.length + k := by
  induction k with
  | zero => rfl
  | succ k ih => simp [wmore, ih]; omega
theorem by4_lt (b : List UInt8) (k : Nat) : by4 b k < 4294967296 := by
  unfold by4
  have h0 := (b.getD k 0).toNat_lt
  have h1 := (b.getD (k + 1) 0).toNat_lt
  have h2 := (b.getD (k + 2) 0).toNat_lt
  have h3 := (b.getD (k + 3) 0).toNat_lt
  omega
theorem sched_length (b : List UInt8) : (sched b).length = 64 := by unfold sched; rw [wmore_length, wfirst_length]
/-- All below 2^32. -/
def Lt32 (W : List Nat) : Prop := ∀ x ∈ W, x < 4294967296
theorem Lt32.getD {W : List Nat} (h : Lt32 W) (k : Nat) : W.getD k 0 < 4294967296 := by
  by_cases hk : k < W.length
  · rw [List.getD_eq_getElem?_getD, List.getElem?_eq_getElem hk]
    exact h _ (List.getElem_mem hk)
  · rw [List.getD_eq_getElem?_getD, List.getElem?_eq_none (by omega)]
    decide
theorem wfirst_lt (b : List UInt8) (n : Nat) : Lt32 (wfirst b n) := by
  intro x hx
  obtain ⟨i, _, rfl⟩ := List.mem_map.1 hx
  exact by4_lt _ _
theorem wnext_lt (W : List Nat) : wnext W < 4294967296 := Nat.mod_lt _ (by omega)
theorem Lt32.snoc {W : List Nat} (h : Lt32 W) {x : Nat} (hx : x < 4294967296) : Lt32 (W ++ [x]) := by
  intro y hy
  rcases List.mem_append.1 hy with hy | hy
  · exact h y hy
  · obtain rfl : y = x := by simpa using hy
    exact hx
theorem wmore_lt {W : List Nat} (h : Lt32 W) (k : Nat) : Lt32 (wmore W k) := by
  induction k with
  | zero => exact h
  | succ k ih => exact ih.snoc (wnext_lt _)
theorem or_shift (a b k : Nat) (hb : b < 2 ^ k) : (a * 2 ^ k) ||| b = a * 2 ^ k + b := by
  rw [Nat.mul_comm, ← Nat.two_pow_add_eq_or_of_lt hb]
/-- 'uint32(a)<<24 | uint32(b)<<16 | uint32(c)<<8 | uint32(d)'. -/
theorem be_walk {a b c d : Nat} (ha : a < 256) (hb : b < 256) (hc : c < 256) (hd : d < 256) :
    ((a * 16777216 ||| b * 65536) ||| c * 256) ||| d = a * 16777216 + b * 65536 + c * 256 + d := by
  have h1 : (a * 16777216 ||| b * 65536) = a * 16777216 + b * 65536 := by
    rw [show a * 16777216 = a * 2 ^ 24 from by omega, or_shift _ _ _ (by omega)]
  have h2 : (a * 16777216 + b * 65536 ||| c * 256) = a * 16777216 + b * 65536 + c * 256 := by
    rw [show a * 16777216 + b * 65536 = (a * 256 + b) * 2 ^ 16 from by omega, or_shift _ _ _ (by omega)]
  rw [h1, h2, show a * 16777216 + b * 65536 + c * 256 = (a * 65536 + b * 256 + c) * 2 ^ 8 from by omega, or_shift _ _ _ (by omega)]
end Go.Proofs.YtgaefejblmnklaaDoor
