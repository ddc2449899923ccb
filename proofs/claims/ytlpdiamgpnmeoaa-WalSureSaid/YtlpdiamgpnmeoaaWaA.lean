
/- Records: helpers; a record's frame, a super. -/
import Derived.Test.YtlpdiamgpnmeoaaDiskCrash
import Derived.Test.YtlpdiamgpnmeoaaCrc
import Derived.Test.YtlpdiamgpnmeoaaOctE
import Derived.Test.YtlpdiamgpnmeoaaFlowS
namespace Go.Proofs.Ytlpdiamgpnmeoaa
open Go.RowKit
set_option linter.unusedVariables false
theorem wpAtC {P : Program} {ops : Array Oper} {rest : List Oper} {o : Oper} {a : Act} {w : World} {Q : Exit → Act → World → Prop} (h : wpList P ops Q (o :: rest) a w) : wpList P ops Q (o :: rest) a w := h
theorem wpList_gives {P : Program} {ops : Array Oper} {rest : List Oper} {o : Oper} {a : Act} {w : World} {Q : Exit → Act → World → Prop} {S : Value → World → Prop} (hgd : o.guard = none) (hg : gives P o a w S) (h : ∀ v w', S v w' → wpList P ops Q rest (a.put o.dst v) w') : wpList P ops Q (o :: rest) a w :=
  wpList_plain hgd fun K hK => wp_of_gives hg fun v w' hs => hK _ _ (h v w' hs)
theorem gives_ext {P : Program} {o : Oper} {a : Act} {w : World} {S : Value → World → Prop} {x : Operand} {i : Nat} (ho : o.op = .extract x i) {us : Array Value} (hx : a.eval x = .tuple us) {u : Value} (hu : us[i]? = some u) (h : S u w) : gives P o a w S := by
  unfold gives execOp
  rw [ho]
  simp only [hx]
  simp only [Instr.extract, hu, Sem.run_bind, Sem.run_pure, Result.andThen_ok]
  exact h
/-- A piece of code at which the walk stands still. -/
def Hold (c : Code) : Code := c
theorem hold (k : Nat) (ops : Array Oper) (b : Bool) : Code.region k ops b = Hold (Code.region k ops b) := rfl
theorem wp_hold {P : Program} {c : Code} {Q : Exit → Act → World → Prop} {a : Act} {w : World} (h : c.wp P Q a w) : (Hold c).wp P Q a w := h
theorem own_keepW {w w' : World} {base e size n : Nat} {v : Value} {xs : List Value} (h : w.ownsRow base e size v n xs) (hb : Below w.heap.size w w') : w'.ownsRow base e size v n xs := by
  refine h.kept (row := none) ⟨hb.os, hb.tape, hb.output, hb.size, fun k hk _ => hb.block k hk⟩ ?_
  cases hv : v.ownBlock with
  | none => exact .inl rfl
  | some a => exact .inr (by simp)
theorem own_lessW {w : World} {B B' e size n : Nat} {v : Value} {xs : List Value} (h : w.ownsRow B e size v n xs) (hB : B' ≤ B) : w.ownsRow B' e size v n xs := by
  refine ⟨h.1, h.2.imp id ?_⟩
  rintro ⟨g, cap, cur, h1, h2, h3⟩
  exact ⟨g, cap, cur, h1, by omega, h3⟩
abbrev tU8 : Nat := 5
/-- A record's frame. -/
def frameL (b : List UInt8) : List UInt8 := numW b.length 4 ++ numW (crc b) 4 ++ b
theorem num8 (x : Nat) : (numW x 8).length = 8 := by unfold numW; rw [if_pos (by decide)]; simp [numL]
theorem num4 (x : Nat) : (numW x 4).length = 4 := by unfold numW; rw [if_pos (by decide)]; simp [numL]
theorem num1 (x : Nat) : (numW x 1).length = 1 := by unfold numW; rw [if_pos (by decide)]; simp [numL]
def zer (n : Nat) : List UInt8 := List.replicate n 0
def superL (turn area tail : Nat) : List UInt8 := numW turn 8 ++ numW area 1 ++ numW tail 4 ++ zer 235 ++ numW turn 8
theorem zer_len (n : Nat) : (zer n).length = n := List.length_replicate
theorem frameL_len (b : List UInt8) : (frameL b).length = 8 + b.length := by unfold frameL; rw [List.length_append, List.length_append, num4, num4]
theorem zer_cb (n : Nat) : (zrow n (.int .u8 0)) = ((zer n).map cb).toArray := by
  apply Array.toList_inj.1
  unfold zrow zer
  rw [Array.toList_replicate, List.map_replicate]
  rfl
set_option maxRecDepth 100000 in
set_option maxHeartbeats 1000000 in
theorem frame_any (w : World) {A : Option Addr} {c B' : Nat} {b : List UInt8} (hr : Rd w B' A (b.map cb)) (hB' : B' ≤ w.heap.size) (hbc : b.length ≤ c) (hl : b.length ≤ 1000000) :
    Calls Try.prog 30 #[.slice A b.length c] w fun e w' => ∃ v, e = .returned v ∧ w'.ownsRow w.heap.size tU8 1 v (frameL b).length ((frameL b).map cb) ∧ Below w.heap.size w w' := by
  have HR := hid hr
  have hcl := crc_lt b
  clear hr
  go_enter Try.func30, Try.ntmps30
  go_wp2_with fail
  refine (NewWriter_any w).mono ?_
  rintro e w1 ⟨g, rfl, hW1, hb1⟩
  have hbl : (b.length : Int) < 18446744073709551616 := by omega
  go_wp2_with fail
  refine (WNum_any w1 hW1 hb1.size b.length 4 (by simp)).mono ?_
  rintro e w2 ⟨rfl, A2, c2, hgo2⟩
  rw [List.nil_append] at hgo2
  have hb2 := hb1.trans hgo2.below
  have hW2 := hgo2.isW
  have hB2 := hb2.size
  clear hgo2 hb1 hW1
  go_wp2_with fail
  have hba : Below w2.heap.size w2 (w2.alloc (.cells #[.slice A b.length c] 23)) := bx_alloc (Below.refl _ _) _
  refine (crcOf_any _ _ 1 [b] (by simp) (by intro l hl'; simp at hl'; subst hl'; omega) (rdBB_one (l := b) (B := w2.heap.size) ⟨A, c, rfl, hbc, (HR.out.below (hb2.mono hB')).more (Nat.le_trans hB' hB2)⟩ (Nat.le_refl _))).mono ?_
  rintro e w3 ⟨rfl, hb3⟩
  rw [show ([b] : List (List UInt8)).flatten = b from by simp]
  have hb23 := bx_trans hba hb3
  have hW3 := (WGo.of_below hW2 hb23 hB2).isW
  have hb03 := hb2.trans (hb23.mono hB2)
  have hB3 := hb03.size
  have hci : ((crc b : Nat) : Int) < 4294967296 := by omega
  clear hba hb23 hb3 hW2 hb2 hB2
  go_wp2_with fail
  refine (WNum_any w3 hW3 hB3 (crc b) 4 (by rw [num4]; decide)).mono ?_
  rintro e w4 ⟨rfl, A4, c4, hgo4⟩
  have hb4 := hb03.trans hgo4.below
  have hW4 := hgo4.isW
  have hB4 := hb4.size
  clear hgo4 hW3 hb03 hB3
  go_wp2_with fail
  refine (WRaw_any w4 hW4 (HR.out.below (hb4.mono hB')) hB4 (by rw [List.length_append, num4, num4]; omega)).mono ?_
  rintro e w5 ⟨rfl, A5, c5, hgo5⟩
  have hb5 := hb4.trans hgo5.below
  have hW5 := hgo5.isW
  have hB5 := hb5.size
  rw [show numW b.length 4 ++ numW (crc b) 4 ++ b = frameL b from rfl] at hW5
  clear hgo5 hW4 hb4 hB4
  go_wp2_with fail
  refine (Out_any w5 hW5 (by rw [frameL_len]; omega)).mono ?_
  rintro e w6 ⟨v, rfl, hown, hb6⟩
  go_wp2_with fail
  go_ret
  exact ⟨v, rfl, own_lessW hown hB5, hb5.trans (hb6.mono hB5)⟩
theorem superL_len (turn area tail : Nat) : (superL turn area tail).length = 256 := by
  unfold superL
  simp only [List.length_append, num8, num1, num4, zer_len]
set_option maxRecDepth 100000 in
set_option maxHeartbeats 1000000 in
theorem super_any (w : World) {turn area tail : Nat} (ht : turn < 18446744073709551616) (ha : area < 9223372036854775808) (hl : tail < 9223372036854775808) :
    Calls Try.prog 40 #[.int .u64 (turn : Int), .int .i64 (area : Int), .int .i64 (tail : Int)] w fun e w' => ∃ v, e = .returned v ∧ w'.ownsRow w.heap.size tU8 1 v (superL turn area tail).length ((superL turn area tail).map cb) ∧ Below w.heap.size w w' := by
  have hmk : ∀ w : World, (Instr.makeSlice 23 (.int .i64 235) (.int .i64 235)).run Try.prog w = .ok (.slice (some ⟨w.heap.size, 0, none⟩) 235 235) (w.alloc (.cells (zrow 235 (.int .u8 0)) 5)) := run_mk1 elU8 .i64 .i64 235 (by decide) (by decide)
  have hai : (area : Int) < 9223372036854775808 := by omega
  have hli : (tail : Int) < 9223372036854775808 := by omega
  go_enter Try.func40, Try.ntmps40
  go_wp2_with fail
  refine (NewWriter_any w).mono ?_
  rintro e w1 ⟨g, rfl, hW1, hb1⟩
  go_wp2_with fail
  refine (WNum_any w1 hW1 hb1.size turn 8 (by simp)).mono ?_
  rintro e w2 ⟨rfl, A2, c2, hgo2⟩
  rw [List.nil_append] at hgo2
  have hb2 := hb1.trans hgo2.below
  have hW2 := hgo2.isW
  clear hgo2 hb1 hW1
  go_wp2_with fail
  refine (WNum_any w2 hW2 hb2.size area 1 (by rw [num8]; decide)).mono ?_
  rintro e w3 ⟨rfl, A3, c3, hgo3⟩
  have hb3 := hb2.trans hgo3.below
  have hW3 := hgo3.isW
  clear hgo3 hb2 hW2
  go_wp2_with fail
  refine (WNum_any w3 hW3 hb3.size tail 4 (by rw [List.length_append, num8, num1]; decide)).mono ?_
  rintro e w4 ⟨rfl, A4, c4, hgo4⟩
  have hb4 := hb3.trans hgo4.below
  have hW4 := hgo4.isW
  have hB4 := hb4.size
  clear hgo4 hb3 hW3
  go_wp2_with fail
  have hba : Below w4.heap.size w4 (w4.alloc (.cells (zrow 235 (.int .u8 0)) tU8)) := bx_alloc (Below.refl _ _) _
  have hW5 := (WGo.of_below hW4 hba hB4).isW
  have hb5 := hb4.trans (hba.mono hB4)
  have hrz : Rd (w4.alloc (.cells (zrow 235 (.int .u8 0)) tU8)) (w4.alloc (.cells (zrow 235 (.int .u8 0)) tU8)).heap.size (some ⟨w4.heap.size, 0, none⟩) ((zer 235).map cb) := rd_of_row (heap_new rfl) (by rw [zer_cb])
  refine (WRaw_any _ hW5 (b := zer 235) (c1 := 235) hrz hb5.size (by rw [List.length_append, List.length_append, num8, num1, num4, zer_len]; decide)).mono ?_
  rintro e w6 ⟨rfl, A6, c6, hgo6⟩
  have hb6 := hb5.trans hgo6.below
  have hW6 := hgo6.isW
  clear hgo6 hb5 hW5 hba hrz hW4 hb4 hB4
  go_wp2_with fail
  refine (WNum_any w6 hW6 hb6.size turn 8 (by rw [List.length_append, List.length_append, List.length_append, num8, num1, num4, zer_len]; decide)).mono ?_
  rintro e w7 ⟨rfl, A7, c7, hgo7⟩
  have hb7 := hb6.trans hgo7.below
  have hW7 := hgo7.isW
  have hB7 := hb7.size
  rw [show numW turn 8 ++ numW area 1 ++ numW tail 4 ++ zer 235 ++ numW turn 8 = superL turn area tail from rfl] at hW7
  clear hgo7 hb6 hW6
  go_wp2_with fail
  refine (Out_any w7 hW7 (by rw [superL_len]; decide)).mono ?_
  rintro e w8 ⟨v, rfl, hown, hb8⟩
  go_wp2_with fail
  go_ret
  exact ⟨v, rfl, own_lessW hown hB7, hb7.trans (hb8.mono hB7)⟩
end Go.Proofs.Ytlpdiamgpnmeoaa
