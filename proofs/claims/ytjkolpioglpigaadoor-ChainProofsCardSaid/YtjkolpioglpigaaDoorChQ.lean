
/- The document's answer for chains: Made, Verify. -/
import Derived.Test.YtjkolpioglpigaaDoorChP
import Derived.Test.YtjkolpioglpigaaDoorShaT
namespace Go.Proofs.YtjkolpioglpigaaDoor
open Go.RowKit
set_option linter.unusedVariables false
/-- Three results, the first two of which lie in memory. -/
theorem results_agg3 {P : Program} {fn : Func} {p q r : Tmp} {ty : TypeId} (h : fn.results = #[.cell p ty, .cell q ty, .tmp r]) {tmps : Array Value} {w : World} {g off g' off' : Nat} {cs cs' : List Value}
    (hp : tmps.getD p undef = .pointer (some ⟨g, off, none⟩)) (hq : tmps.getD q undef = .pointer (some ⟨g', off', none⟩)) (hT : AggT P ty cs.length) (hT' : AggT P ty cs'.length) (hc : ∀ j v, cs[j]? = some v → w.cell? ⟨g, off + j, none⟩ = some v) (hc' : ∀ j v, cs'[j]? = some v → w.cell? ⟨g', off' + j, none⟩ = some v) :
    (results fn tmps).run P w = .ok (.tuple #[.agg cs.toArray, .agg cs'.toArray, tmps.getD r undef]) w := by
  have hp' : tmps[p]?.getD undef = .pointer (some ⟨g, off, none⟩) := by simpa using hp
  have hq' : tmps[q]?.getD undef = .pointer (some ⟨g', off', none⟩) := by simpa using hq
  simp [results, h, hp', hq', asAddr, run_load_agg hT hc, run_load_agg hT' hc']
theorem built0 : Tryd.prog.built tH [] = some (Value.agg (List.replicate 32 (cb 0)).toArray).cells := by kernel_rfl
theorem gives_build0 {o : Oper} {a : Act} {w : World} {S : Value → World → Prop} (ho : o.op = .build tH #[]) (h : S (.agg (List.replicate 32 (cb 0)).toArray) w) : gives Tryd.prog o a w S :=
  gives_build tH #[] ho [] (by simp) built0 h
set_option maxRecDepth 10000 in
set_option maxHeartbeats 2000000 in
theorem rMade_no (w : World) (m n p c : Nat) (A : Option Addr) (old : List UInt8) (h1 : 1 ≤ m) (h2 : m ≤ n) (hn : n < 18446744073709551616) (ho : old.length = 32) (hp : p ≠ longN m n) (hpl : p ≤ 1000000) :
    Calls Tryd.prog 18 #[.int .u64 (m : Int), .int .u64 (n : Int), .agg (old.map cb).toArray, .slice A p c] w fun e w' => e = .returned (.tuple #[.agg ((List.replicate 32 (0 : UInt8)).map cb).toArray, .agg ((List.replicate 32 (0 : UInt8)).map cb).toArray, .bool false]) ∧ Below w.heap.size w w' := by
  have hb0 : Below w.heap.size w (w.alloc (.cells (old.map cb).toArray tH)) := bx_alloc (Below.refl _ _) _
  have HS := hid (fun w' => rsteps_any w' m n h1 h2 hn)
  have HLG := hid (fun w' => rLong_any w' m n (by omega) hn)
  have hl65 := longN_le h1 h2 hn
  generalize longN m n = L at *
  have hne : ((p : Int) == (L : Int)) = false := by simp; omega
  have hz32 : (List.replicate 32 (0 : UInt8)).length = 32 := List.length_replicate
  go_enter Tryd.func18, Tryd.ntmps18
  go_wp2_with (first
    | ((with_reducible refine wpAtC ?_); refine wpList_alloc (w := w.alloc (.cells (old.map cb).toArray tH)) rfl _ rfl zeroH ?_; intro g8 w8 hg8 hg8' hz8 hb8; simp only [Act.put, List.setIfInBounds_toArray, List.set_cons_succ, List.set_cons_zero])
    | ((with_reducible refine wpAtC ?_); refine wpList_alloc (w := w8) rfl _ rfl zeroH ?_; intro g9 w9 hg9 hg9' hz9 hb9; simp only [Act.put, List.setIfInBounds_toArray, List.set_cons_succ, List.set_cons_zero]))
  have hz89 := hz8.below hb9 hg8'
  have hb09 := bx_trans (bx_trans hb0 hb8) hb9
  have hne89 : g8 ≠ g9 := by omega
  have hw8 : w.heap.size ≤ g8 := Nat.le_trans hb0.size hg8
  have hw9 : w.heap.size ≤ g9 := by omega
  clear hz8 hb8 hb9 hb0
  refine (HS.out w9).mono ?_
  rintro e w10 ⟨v, rfl, hown, hb10⟩
  obtain ⟨A10, c10, rfl, _, _, _⟩ := own_form hown
  have hz8 := hz89.below hb10 hz89.lt
  have hz9' := hz9.below hb10 hz9.lt
  have hb010 := bx_trans hb09 hb10
  clear hown hz89 hz9 hb09 hb10
  go_wp2_with fail
  refine (HLG.out w10).mono ?_
  rintro e w11 ⟨rfl, hb11⟩
  have hz811 := hz8.below hb11 hz8.lt
  have hz911 := hz9'.below hb11 hz9'.lt
  have hb011 := bx_trans hb010 hb11
  clear hz8 hz9' hb010 hb11
  have hagg : (List.replicate 32 (cb 0)) = (List.replicate 32 (0 : UInt8)).map cb := by rw [List.map_replicate]
  have HAG := hid hagg
  clear hagg
  go_wp2_with (first
    | ((with_reducible refine wpAtC ?_); refine wpList_gives rfl (gives_build0 (S := fun v w' => v = .agg (List.replicate 32 (cb 0)).toArray ∧ w' = _) rfl ⟨rfl, rfl⟩) ?_; rintro v12 w12 ⟨rfl, rfl⟩; rw [HAG.out]; simp only [Act.put, List.setIfInBounds_toArray, List.set_cons_succ, List.set_cons_zero])
    | ((with_reducible refine wpAtC ?_); refine wpList_store_agg rfl _ _ _ rfl _ _ rfl ((List.replicate 32 (0 : UInt8)).map cb).toArray rfl (aggHS hz32) hz811 (szH hz32) (one_cbA _) ?_; intro w13 hp13; simp only [Act.put]; rw [splH hz32] at hp13; have hz913 := hp13.other hz911 (Ne.symm hne89))
    | ((with_reducible refine wpAtC ?_); refine wpList_store_agg rfl _ _ _ rfl _ _ rfl ((List.replicate 32 (0 : UInt8)).map cb).toArray rfl (aggHS hz32) hz913 (szH hz32) (one_cbA _) ?_; intro w14 hp14; simp only [Act.put]; rw [splH hz32] at hp14))
  have hA := hp14.other hp13.blk hne89
  exact bodyPost_ret (results_agg3 rfl rfl rfl (aggHL hz32) (aggHL hz32) (blk_cells hA) (blk_cells hp14.blk)) rfl ⟨rfl, bx_put (bx_put hb011 hp13 hw8) hp14 hw9⟩
end Go.Proofs.YtjkolpioglpigaaDoor
