
/- SHA-256: Text. -/
import Derived.Test.YtgaefejblmnklaaDoorShaH
namespace Go.Proofs.YtgaefejblmnklaaDoor
open Go.RowKit
set_option linter.unusedVariables false

theorem digits_run (n : Nat) (hn : n < 16) (w : World) : (Instr.index 9 (.string { data := #[48, 49, 50, 51, 52, 53, 54, 55, 56, 57, 97, 98, 99, 100, 101, 102] }) (.int .u8 (n : Int))).run Tryd.prog w = .ok (.int .u8 (((dig n).toNat : Nat) : Int)) w := by
  rw [run_index_string w 9 _ .u8 (n : Int) Tryd.underlying9]
  have h : n = 0 ∨ n = 1 ∨ n = 2 ∨ n = 3 ∨ n = 4 ∨ n = 5 ∨ n = 6 ∨ n = 7 ∨ n = 8 ∨ n = 9 ∨ n = 10 ∨ n = 11 ∨ n = 12 ∨ n = 13 ∨ n = 14 ∨ n = 15 := by omega
  rcases h with rfl | rfl | rfl | rfl | rfl | rfl | rfl | rfl | rfl | rfl | rfl | rfl | rfl | rfl | rfl | rfl <;> rfl
theorem shr4_u8 (x : UInt8) : ((x.toNat : Int) / 16) = ((x.toNat / 16 : Nat) : Int) := by omega
theorem and15_u8 (x : UInt8) : bits BinOp.and IntKind.u8 (x.toNat : Int) 15 = ((x.toNat % 16 : Nat) : Int) := by
  rw [show (15 : Int) = ((15 : Nat) : Int) from rfl, u8_and_nat _ _ x.toNat_lt (by omega)]
  congr 1
  exact Nat.and_two_pow_sub_one_eq_mod x.toNat 4
theorem textL_take {h : List UInt8} {k : Nat} (hk : k < h.length) : textL (h.take (k + 1)) = textL (h.take k) ++ [dig (h[k].toNat / 16), dig (h[k].toNat % 16)] := by
  unfold textL
  rw [List.take_succ_eq_append_getElem hk, List.flatMap_append]
  rfl
theorem textL_length (h : List UInt8) : (textL h).length = 2 * h.length := by
  induction h with
  | nil => rfl
  | cons x h ih => simp [textL] at *; omega
theorem own_keep {w w' : World} {base e size n : Nat} {v : Value} {xs : List Value} (h : w.ownsRow base e size v n xs) (hb : Below w.heap.size w w') : w'.ownsRow base e size v n xs := by
  refine h.kept (row := none) ⟨hb.os, hb.tape, hb.output, hb.size, fun k hk _ => hb.block k hk⟩ ?_
  cases hv : v.ownBlock with
  | none => exact .inl rfl
  | some a => exact .inr (by simp)
end Go.Proofs.YtgaefejblmnklaaDoor
