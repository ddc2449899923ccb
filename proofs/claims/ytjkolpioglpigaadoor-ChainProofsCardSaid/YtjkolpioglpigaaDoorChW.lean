
/- The document's answer for trees: Root, from below. -/
import Derived.Test.YtjkolpioglpigaaDoorChU
import Derived.Test.YtjkolpioglpigaaDoorOwnT
import Derived.Test.YtjkolpioglpigaaDoorStkP
namespace Go.Proofs.YtjkolpioglpigaaDoor
open Go.RowKit
set_option linter.unusedVariables false
def hsS (st : List (Nat × List UInt8)) : List Value := (st.map (·.2)).reverse.flatten.map cb
def nsS (st : List (Nat × List UInt8)) : List Value := (st.map (·.1)).reverse.map fun n => .int .i64 (n : Int)
theorem hsS_cons (p : Nat × List UInt8) (r : List (Nat × List UInt8)) : hsS (p :: r) = hsS r ++ p.2.map cb := by
  unfold hsS
  simp
theorem nsS_cons (p : Nat × List UInt8) (r : List (Nat × List UInt8)) : nsS (p :: r) = nsS r ++ [.int .i64 (p.1 : Int)] := by
  unfold nsS
  simp
theorem nsS_len (r : List (Nat × List UInt8)) : (nsS r).length = r.length := by unfold nsS; simp
theorem hsS_len : ∀ (r : List (Nat × List UInt8)), (∀ p ∈ r, p.2.length = 32) → (hsS r).length = r.length * 32
  | [], _ => rfl
  | p :: r, h => by
    rw [hsS_cons, List.length_append, hsS_len r fun q hq => h q (List.mem_cons_of_mem _ hq), List.length_map, h p (List.mem_cons_self ..), List.length_cons]
    omega
theorem hsS_take (p : Nat × List UInt8) (r : List (Nat × List UInt8)) (h : ∀ q ∈ r, q.2.length = 32) : (hsS (p :: r)).take (r.length * 32) = hsS r := by
  rw [hsS_cons, List.take_append_of_le_length (by rw [hsS_len r h]; omega), List.take_of_length_le (by rw [hsS_len r h]; omega)]
theorem nsS_take (p : Nat × List UInt8) (r : List (Nat × List UInt8)) : (nsS (p :: r)).take (r.length * 1) = nsS r := by
  rw [nsS_cons, List.take_append_of_le_length (by rw [nsS_len]; omega), List.take_of_length_le (by rw [nsS_len]; omega)]
theorem elI : ElT Tryd.prog 48 3 1 8 (Value.int .i64 0).cells := elT_of Tryd.underlying48 (by kernel_rfl) rfl (by decide)
theorem one_nsS (l : List Value) (h : ∀ v ∈ l, ∃ n : Int, v = .int .i64 n) : ∀ u ∈ l, u.oneCell' = true := by
  intro u hu
  obtain ⟨n, rfl⟩ := h u hu
  rfl
set_option maxRecDepth 10000 in
set_option maxHeartbeats 1000000 in
theorem rRoot_nil (w : World) (A : Option Addr) (c : Nat) :
    Calls Tryd.prog 26 #[.slice A 0 c] w fun e w' => e = .returned (.agg ((shaL []).map cb).toArray) ∧ Below w.heap.size w w' := by
  have h32 := shaL_len []
  have HO := hid (fun w' => rOf_any w' [] (by decide))
  generalize shaL [] = X at *
  go_enter Tryd.func26, Tryd.ntmps26
  go_wp2_with (first
    | ((with_reducible refine wpAtC ?_); refine wpList_alloc (w := w) rfl _ rfl zeroH ?_; intro g2 w2 hg2 hg2' hz2 hb2; simp only [Act.put, List.setIfInBounds_toArray, List.set_cons_succ, List.set_cons_zero]))
  refine (HO.out w2).mono ?_
  rintro e w3 ⟨rfl, hb3⟩
  have hz3 := hz2.below hb3 hg2'
  have hb03 := hb2.trans (hb3.mono hb2.size)
  go_wp2_with (first
    | ((with_reducible refine wpAtC ?_); refine wpList_store_agg rfl _ _ _ rfl _ _ rfl (X.map cb).toArray rfl (aggHS h32) hz3 (szH h32) (one_cbA _) ?_; intro w4 hp4; simp only [Act.put]; rw [splH h32] at hp4))
  exact bodyPost_ret (results_agg rfl rfl (aggHL h32) (blk_cells hp4.blk)) rfl ⟨rfl, bx_put hb03 hp4 hg2⟩
end Go.Proofs.YtjkolpioglpigaaDoor
