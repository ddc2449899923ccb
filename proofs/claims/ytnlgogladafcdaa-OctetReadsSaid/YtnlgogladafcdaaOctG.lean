/- octet: awake. -/
import Derived.Test.YtnlgogladafcdaaOctF
import Derived.Stop.BytesEq
namespace Go.Proofs.Ytnlgogladafcdaa
open Go.RowKit
set_option linter.unusedVariables false

theorem size_u8 : ∀ w, (sizeOf 5).run Try.prog w = .ok 1 w := fun w => by
  have h : ((Try.prog).info? 5).map (·.size) = some 1 := by kernel_rfl
  cases hi : (Try.prog).info? 5 with
  | none => rw [hi] at h; cases h
  | some i =>
    have hs : i.size = 1 := by simpa [hi] using h
    simp [sizeOf, typeInfo, hi, hs]
/-- '==' of two hashes. -/
theorem eq_hash (x y : List UInt8) (hx : x.length = 32) (hy : y.length = 32) (w : World) : (Op.equalIn 10000 25 (.agg (x.map cb).toArray) (.agg (y.map cb).toArray)).run Try.prog w = .ok (x == y) w :=
  run_equalIn_bytes w 9998 25 5 32 Try.underlying25 Try.underlying5 size_u8 x y hx hy
/-- A guarded load of a whole array. -/
theorem wpList_load_aggG {P : Program} {ops : Array Oper} {rest : List Oper} {o : Oper} {a : Act} {w : World} {Q : Exit → Act → World → Prop} (hgd : Region.wanted o (yielded ops a.tmps) = true) (ty : TypeId) (x : Operand) (ho : o.op = .load ty x)
    (g off : Nat) (hx : a.eval x = .pointer (some ⟨g, off, none⟩)) (cs : List Value) (hT : AggT P ty cs.length) (hc : ∀ j v, cs[j]? = some v → w.cell? ⟨g, off + j, none⟩ = some v)
    (h : wpList P ops Q rest (a.put o.dst (.agg cs.toArray)) w) : wpList P ops Q (o :: rest) a w :=
  wpList_step fun _ hK => by
    rw [if_pos hgd]
    unfold Oper.wp execOp
    simp only [ho, hx, Instr.loadAt, Instr.sureAddr, Sem.run_bind, Sem.run_pure, Result.andThen_ok, run_load_agg hT hc]
    exact hK _ _ h
def h7 : List UInt8 := [7, 0, 0, 0, 0, 0, 0, 0, 0, 0, 0, 0, 0, 0, 0, 0, 0, 0, 0, 0, 0, 0, 0, 0, 0, 0, 0, 0, 0, 0, 0, 0]
def L38 : List UInt8 := [1, 2, 0, 2, 97, 98] ++ h7
theorem sep_new {w : World} {B g : Nat} {l : List UInt8} {A : Option Addr} {c : Nat} (h : IsW w B g l A c) {b : Nat} (hb : w.heap.size ≤ b) (off : Nat) : Sep (some ⟨b, off, none⟩) g (.slice A l.length c) := fun bb o e => by
  injection e with e
  injection e with e1 _
  subst e1
  refine ⟨by have := h.blk.lt; omega, fun e2 => ?_⟩
  have := (h.own.lt b e2).2
  omega
set_option maxRecDepth 100000 in
set_option maxHeartbeats 1000000 in
theorem awake_any (w : World) : Calls Try.prog 11 #[] w fun e w' => e = .returned (.bool true) ∧ Below w.heap.size w w' := by
  have kc := conv_const Try.underlying23 Try.underlying5
  go_enter Try.func11, Try.ntmps11
  go_wp2_with fail
  refine (NewWriter_any w).mono ?_
  rintro e w1 ⟨g, rfl, hW, hb1⟩
  go_wp2_with fail
  refine (WNum_any w1 hW hb1.size 258 2 (by simp)).mono ?_
  rintro e w2 ⟨rfl, A2, c2, hG2⟩
  rw [show ([] : List UInt8) ++ numW 258 2 = [1, 2] from by decide +kernel] at hG2
  have hb2 := hb1.trans hG2.below
  go_wp2_with fail
  have hbl : Below w2.heap.size w2 (w2.alloc (.cells #[.int .u8 97, .int .u8 98] 5 (2, 3))) := bx_alloc (Below.refl _ _) _
  have hW2 := hG2.isW.below hbl
  have hrd : Rd (w2.alloc (.cells #[.int .u8 97, .int .u8 98] 5 (2, 3))) (w2.alloc (.cells #[.int .u8 97, .int .u8 98] 5 (2, 3))).heap.size (some ⟨w2.heap.size, 0, none⟩) (([97, 98] : List UInt8).map cb) := rd_of_row (heap_new rfl) rfl
  have hs2 : w.heap.size ≤ w2.heap.size := hb2.size
  refine (WBytes_any _ hW2 (Nat.le_trans hs2 hbl.size) (b := [97, 98]) hrd (by decide) (by unfold maxLen; omega) (.inr (sep_new hG2.isW (Nat.le_refl _) 0)) (by simp)).mono ?_
  rintro e w3 ⟨rfl, A3, c3, hG3⟩
  rw [show ([1, 2] : List UInt8) ++ bytesW [97, 98] = [1, 2, 0, 2, 97, 98] from by decide +kernel] at hG3
  have hb3 : Below w.heap.size w w3 := (bx_trans hb2 hbl).trans hG3.below
  clear hW2 hrd hbl hG2 hW hs2
  go_wp2_with fail
  refine (WHash_any w3 hG3.isW hb3.size (x := h7) rfl (by simp)).mono ?_
  rintro e w4 ⟨rfl, A4, c4, hG4⟩
  rw [show ([1, 2, 0, 2, 97, 98] : List UInt8) ++ h7 = L38 from rfl] at hG4
  have hb4 : Below w.heap.size w w4 := hb3.trans hG4.below
  clear hG3 kc
  go_wp2_with fail
  refine (Out_any w4 hG4.isW (by decide)).mono ?_
  rintro e w5 ⟨v, rfl, hown, hb5⟩
  have hv5 := own_slO hown
  have hb05 := hb4.trans (hb5.mono hb4.size)
  clear hown hG4
  obtain ⟨A5, c5, rfl, hc5, hm5, hrd5, hout5⟩ := hv5
  go_wp2_with fail
  refine (NewReader_any w5 hrd5 (by decide)).mono ?_
  rintro e w6 ⟨g6, rfl, ⟨A6, c6, hR6⟩, hg6, hb6⟩
  have hv6 : SlO w6 (.slice A5 L38.length c5) L38 := SlO.below ⟨A5, c5, rfl, hc5, hm5, hrd5, hout5⟩ hb6
  have hb06 := bx_trans hb05 hb6
  have hgw : w.heap.size ≤ g6 := by have := hb05.size; omega
  clear hrd5 hout5
  go_wp2_with fail
  refine (RNum_any w6 hR6 2).mono ?_
  rintro e w7 ⟨rfl, hR7, hg7⟩
  rw [show numS ⟨L38, 0⟩ 2 = ⟨L38.drop 2, 0⟩ from rfl] at hR7
  rw [show numV ⟨L38, 0⟩ 2 = 258 from by decide +kernel]
  have hv7 := hv6.grown ⟨A6, c6, hR6⟩ hg7
  have hb07 := hb06.trans (below_rg hg7 hgw hb06.size)
  clear hR6 hv6 hg7
  obtain ⟨A7, c7, hR7⟩ := hR7
  go_wp2_with fail
  refine (RBytes_any w7 hR7 2 (by omega) (by decide)).mono ?_
  rintro e w8 ⟨v8, rfl, hv8, hR8, hg8⟩
  rw [show bytesV ⟨L38.drop 2, 0⟩ 2 = [97, 98] from by decide +kernel] at hv8
  rw [show bytesS ⟨L38.drop 2, 0⟩ 2 = ⟨h7, 0⟩ from by rw [(bytes_ok (s := ⟨L38.drop 2, 0⟩) (most := 2) rfl (by decide +kernel)).2]; rfl] at hR8
  have hv58 := hv7.grown ⟨A7, c7, hR7⟩ hg8
  have hb08 := hb07.trans (below_rg hg8 hgw hb07.size)
  clear hR7 hv7 hg8
  obtain ⟨A8, c8, hR8⟩ := hR8
  obtain ⟨Av, cv, rfl, hcv, hmv, hrv, hov⟩ := hv8
  go_wp2_with fail
  refine (RHash_any w8 hR8 (by decide)).mono ?_
  rintro e w9 ⟨rfl, hR9, hg9⟩
  rw [show hashV ⟨h7, 0⟩ = h7 from by decide +kernel]
  rw [show takeS ⟨h7, 0⟩ 32 = ⟨[], 0⟩ from rfl] at hR9
  have hv59 := hv58.grown ⟨A8, c8, hR8⟩ hg9
  have hvv : SlO w9 (.slice Av 2 cv) [97, 98] := SlO.grown ⟨Av, cv, rfl, hcv, hmv, hrv, hov⟩ ⟨A8, c8, hR8⟩ hg9
  have hb09 := hb08.trans (below_rg hg9 hgw hb08.size)
  clear hR8 hv58 hg9 hrv hov
  obtain ⟨A5', c5', e5, _, _, hrd9, _⟩ := hv59
  injection e5 with e1 _ e3
  subst e1 e3
  obtain ⟨b, off, rfl, hbb, hd⟩ := hrd9.at_ (k := 0) (by decide)
  have hc0 : w9.cell? ⟨b, off, none⟩ = some (.int .u8 1) := hd 0 _ rfl
  have hc1 : w9.cell? ⟨b, off + 1, none⟩ = some (.int .u8 2) := hd 1 _ rfl
  have hc3 : w9.cell? ⟨b, off + 3, none⟩ = some (.int .u8 2) := hd 3 _ rfl
  rw [show L38.length = 38 from rfl] at hc5 ⊢
  have heq : ∀ w, (Op.equalIn 10000 25 (.agg (h7.map cb).toArray) (.agg #[.int .u8 7, .int .u8 0, .int .u8 0, .int .u8 0, .int .u8 0, .int .u8 0, .int .u8 0, .int .u8 0, .int .u8 0, .int .u8 0, .int .u8 0, .int .u8 0, .int .u8 0, .int .u8 0, .int .u8 0, .int .u8 0, .int .u8 0, .int .u8 0, .int .u8 0, .int .u8 0, .int .u8 0, .int .u8 0, .int .u8 0, .int .u8 0, .int .u8 0, .int .u8 0, .int .u8 0, .int .u8 0, .int .u8 0, .int .u8 0, .int .u8 0, .int .u8 0])).run Try.prog w = .ok true w := fun w => by
    have := eq_hash h7 h7 rfl rfl w
    rw [show (h7 == h7) = true from by decide] at this
    exact this
  obtain ⟨Av', cv', ev, _, _, hrv, _⟩ := hvv
  injection ev with e1 _ e3
  subst e1 e3
  clear hd hrd9
  have h32 : h7.length = 32 := rfl
  go_wp2_with (first
    | (refine wpList_alloc rfl _ rfl zeroH ?_; intro g10 w10 hg10 hg10' hblk10 hb10)
    | (refine wpList_store_agg rfl _ _ _ rfl _ _ rfl (h7.map cb).toArray rfl (aggHS h32) hblk10 (szH h32) (one_cbA h7) ?_; intro w11 hput; have hbx := bx_put hb10 hput hg10; have hd0 := (hbx.cell (p := ⟨b, off, none⟩) hbb).trans hc0; have hd1 := (hbx.cell (p := ⟨b, off + 1, none⟩) hbb).trans hc1; have hd3 := (hbx.cell (p := ⟨b, off + 3, none⟩) hbb).trans hc3; have hcv : (convert 23 9 (.slice Av 2 cv)).run Try.prog w11 = .ok (.string ⟨#[97, 98]⟩) w11 := conv_str (P := Try.prog) (src := 23) (dst := 9) (l := [97, 98]) Try.underlying23 Try.underlying5 Try.underlying9 cv (hrv.below hbx); have hblk11 := hput.blk; rw [splH h32] at hblk11; have hR11 := hR9.below hbx)
    | (refine wpList_load_aggG rfl _ _ rfl _ _ rfl (h7.map cb) (aggHL h32) (blk_cells hblk11) ?_))
  obtain ⟨AR, cR, hR11⟩ := hR11
  refine (REnd_any w11 hR11).mono ?_
  rintro e w12 ⟨rfl, rfl⟩
  rw [show endE ⟨[], 0⟩ = 0 from by decide +kernel]
  go_wp2
  go_ret
  exact ⟨rfl, bx_trans hb09 hbx⟩
end Go.Proofs.Ytnlgogladafcdaa
