
/- The plain law of the sum: what one bit, four bits, a byte do; no Go in sight. -/
import Derived.Laws.BitsAllLaws
import Derived.RowKit
import Derived.WalkKit
namespace Go.Proofs.Ytlpdiamgpnmeoaa
open Go.RowKit

def st (x : Nat) : Nat := (x / 2) ^^^ ((x % 2) * 3988292384)
def stn (x : Nat) : Nat → Nat | 0 => x | k + 1 => st (stn x k)
def T4 (i : Nat) : Nat := stn i 4
def nb (y : Nat) : Nat := (y / 16) ^^^ T4 (y % 16)
def crcB (x : Nat) (c : UInt8) : Nat := nb (nb (x ^^^ c.toNat))
def crcF (x : Nat) (l : List UInt8) : Nat := l.foldl crcB x
def crc (l : List UInt8) : Nat := 4294967295 - crcF 4294967295 l

theorem xor_lt32 {a b : Nat} (ha : a < 4294967296) (hb : b < 4294967296) : a ^^^ b < 4294967296 := Nat.xor_lt_two_pow (n := 32) ha hb
theorem st_lt {x : Nat} (h : x < 4294967296) : st x < 4294967296 := xor_lt32 (by omega) (by omega)
theorem stn_lt {x : Nat} (h : x < 4294967296) (k : Nat) : stn x k < 4294967296 := by
  induction k with
  | zero => exact h
  | succ k ih => exact st_lt ih
theorem T4_lt (i : Nat) (h : i < 16) : T4 i < 4294967296 := stn_lt (by omega) 4
theorem nb_lt {y : Nat} (h : y < 4294967296) : nb y < 4294967296 := xor_lt32 (by omega) (T4_lt _ (by omega))
theorem u8_lt (c : UInt8) : c.toNat < 256 := c.toNat_lt
theorem crcB_lt {x : Nat} (h : x < 4294967296) (c : UInt8) : crcB x c < 4294967296 := nb_lt (nb_lt (xor_lt32 h (by have := u8_lt c; omega)))
theorem crcF_lt {x : Nat} (h : x < 4294967296) (l : List UInt8) : crcF x l < 4294967296 := by
  induction l generalizing x with
  | nil => exact h
  | cons c l ih => exact ih (crcB_lt h c)
theorem crc_lt (l : List UInt8) : crc l < 4294967296 := by unfold crc; omega
theorem crcF_snoc (x : Nat) (l : List UInt8) (c : UInt8) : crcF x (l ++ [c]) = crcB (crcF x l) c := by simp [crcF]
theorem crcF_append (x : Nat) (l m : List UInt8) : crcF x (l ++ m) = crcF (crcF x l) m := by simp [crcF]

/-- In the walk's spelling. -/
theorem st_walk {x : Nat} (h : x < 4294967296) : bits BinOp.xor IntKind.u32 ((x : Int) / 2) (bits BinOp.and IntKind.u32 (x : Int) 1 * 3988292384 % 4294967296) = (st x : Nat) := by
  rw [show (1 : Int) = ((1 : Nat) : Int) from rfl, u32_and_nat x 1 h (by omega), Nat.and_one_is_mod]
  rw [show ((x : Int) / 2) = ((x / 2 : Nat) : Int) from by omega, show (((x % 2 : Nat) : Int) * 3988292384 % 4294967296) = (((x % 2) * 3988292384 : Nat) : Int) from by omega]
  rw [u32_xor_nat _ _ (by omega) (by omega)]
  rfl
theorem xor_walk {x c : Nat} (h : x < 4294967296) (hc : c < 4294967296) : bits BinOp.xor IntKind.u32 (x : Int) (c : Int) = (x ^^^ c : Nat) := u32_xor_nat x c h hc
theorem and15_walk {x : Nat} (h : x < 4294967296) : bits BinOp.and IntKind.u32 (x : Int) 15 = (x % 16 : Nat) := by
  rw [show (15 : Int) = ((15 : Nat) : Int) from rfl, u32_and_nat x 15 h (by omega)]
  rw [show (15 : Nat) = 2 ^ 4 - 1 from rfl, Nat.and_two_pow_sub_one_eq_mod]
theorem nb_walk {x : Nat} (h : x < 4294967296) : bits BinOp.xor IntKind.u32 ((x : Int) / 16) (T4 (x % 16) : Nat) = (nb x : Nat) := by
  rw [show ((x : Int) / 16) = ((x / 16 : Nat) : Int) from by omega, u32_xor_nat _ _ (by omega) (T4_lt _ (by omega))]
  rfl
theorem not_walk {x : Nat} (h : x < 4294967296) : bits BinOp.xor IntKind.u32 IntKind.u32.max (x : Int) = (4294967295 - x : Nat) := by
  rw [show IntKind.u32.max = ((4294967295 : Nat) : Int) from rfl, u32_xor_nat _ _ (by omega) h]
  have e : 4294967295 ^^^ x = 4294967295 - x := by
    have h1 : (~~~ (BitVec.ofNat 32 x)).toNat = 4294967295 - x := by rw [BitVec.toNat_not, BitVec.toNat_ofNat]; omega
    rw [← h1, ← BitVec.allOnes_xor, BitVec.toNat_xor, BitVec.toNat_allOnes, BitVec.toNat_ofNat, Nat.mod_eq_of_lt (by omega)]
  rw [e]

/-! ### bit by bit -/
theorem st_xor (a b : Nat) : st (a ^^^ b) = st a ^^^ st b := by
  unfold st
  have h1 : (a ^^^ b) / 2 = (a / 2) ^^^ (b / 2) := by
    have := Nat.shiftRight_xor_distrib (a := a) (b := b) (i := 1)
    simpa [Nat.shiftRight_succ] using this
  have h2 : (a ^^^ b) % 2 = (a % 2 + b % 2) % 2 := by
    rcases Nat.mod_two_eq_zero_or_one a with ha | ha <;> rcases Nat.mod_two_eq_zero_or_one b with hb | hb
    all_goals
      have := Nat.xor_mod_two_pow (a := a) (b := b) (n := 1)
      simp [ha, hb] at this ⊢
      try omega
  rw [h1, h2]
  rcases Nat.mod_two_eq_zero_or_one a with ha | ha <;> rcases Nat.mod_two_eq_zero_or_one b with hb | hb
  · simp [ha, hb]
  · simp [ha, hb, Nat.xor_assoc]
  · simp only [ha, hb, Nat.zero_mul, Nat.one_mul, Nat.xor_zero, Nat.add_zero, Nat.one_mod]
    rw [Nat.xor_assoc, Nat.xor_assoc, Nat.xor_comm 3988292384]
  · simp only [ha, hb, Nat.one_mul, show (1 + 1) % 2 = 0 from rfl, Nat.zero_mul, Nat.xor_zero]
    rw [Nat.xor_assoc, Nat.xor_comm 3988292384, Nat.xor_assoc, Nat.xor_self, Nat.xor_zero]
theorem stn_xor (a b k : Nat) : stn (a ^^^ b) k = stn a k ^^^ stn b k := by
  induction k with
  | zero => rfl
  | succ k ih => simp only [stn, ih, st_xor]
theorem st_double (q : Nat) : st (2 * q) = q := by unfold st; simp
theorem stn_succ' (x k : Nat) : stn x (k + 1) = stn (st x) k := by
  induction k with
  | zero => rfl
  | succ k ih => show st (stn x (k + 1)) = st (stn (st x) k); rw [ih]
theorem stn_mul (q k : Nat) : stn (2 ^ k * q) k = q := by
  induction k with
  | zero => simp [stn]
  | succ k ih => rw [stn_succ', Nat.pow_succ, Nat.mul_comm (2 ^ k) 2, Nat.mul_assoc, st_double, ih]
theorem stn_add (x j k : Nat) : stn x (j + k) = stn (stn x j) k := by
  induction k with
  | zero => rfl
  | succ k ih => show st (stn x (j + k)) = _; rw [ih]; rfl
theorem split_xor (y k : Nat) : (2 ^ k * (y / 2 ^ k)) ^^^ (y % 2 ^ k) = y := by
  have h := Nat.two_pow_add_eq_or_of_lt (i := k) (b := y % 2 ^ k) (Nat.mod_lt _ (Nat.two_pow_pos k)) (y / 2 ^ k)
  apply Nat.eq_of_testBit_eq
  intro i
  rw [Nat.testBit_xor, Nat.testBit_two_pow_mul, Nat.testBit_mod_two_pow, Nat.testBit_div_two_pow]
  by_cases hi : i < k
  · simp [hi, Nat.not_le.2 hi]
  · have : k ≤ i := Nat.not_lt.1 hi
    simp [hi, this]
theorem nb_eq (y : Nat) : nb y = stn y 4 := by
  conv => rhs; rw [← split_xor y 4, stn_xor, stn_mul]
  rfl
theorem crcB_eq (x : Nat) (c : UInt8) : crcB x c = stn (x ^^^ c.toNat) 8 := by
  unfold crcB
  rw [nb_eq, nb_eq, ← stn_add]

theorem stn_zero (k : Nat) : stn 0 k = 0 := by
  induction k with
  | zero => rfl
  | succ k ih => show st (stn 0 k) = 0; rw [ih]; rfl
theorem crcB_xor (x y : Nat) (c d : UInt8) : crcB (x ^^^ y) (c ^^^ d) = crcB x c ^^^ crcB y d := by
  rw [crcB_eq, crcB_eq, crcB_eq, ← stn_xor]
  congr 1
  rw [UInt8.toNat_xor, Nat.xor_assoc, Nat.xor_assoc, ← Nat.xor_assoc y, Nat.xor_comm y, Nat.xor_assoc]
end Go.Proofs.Ytlpdiamgpnmeoaa
