
/- Chains: Verify, the short ways. -/
import Derived.Test.YtohkfnmggmlogaaDoorChF
import Derived.Test.YtohkfnmggmlogaaDoorChC
import Derived.Test.YtohkfnmggmlogaaDoorFlowK
namespace Go.Proofs.YtohkfnmggmlogaaDoor
open Go.RowKit
set_option linter.unusedVariables false
/-- A tree's size and root, as cells. -/
def kcell (m : Nat) (h : List UInt8) : List Value := .int .u64 (m : Int) :: h.map cb
theorem kcell_root {w : World} {g m : Nat} {h : List UInt8} {t : TypeId} (hb : Blk w g t (kcell m h).toArray) : ∀ j v, (h.map cb)[j]? = some v → w.cell? ⟨g, 1 + j, none⟩ = some v := by
  intro j v hv
  rw [hb.cell]
  unfold kcell
  rw [List.getElem?_toArray, Nat.add_comm, List.getElem?_cons_succ]
  exact hv
theorem kcell_size {w : World} {g m : Nat} {h : List UInt8} {t : TypeId} (hb : Blk w g t (kcell m h).toArray) : w.cell? ⟨g, 0, none⟩ = some (.int .u64 (m : Int)) := by rw [hb.cell]; rfl
theorem wpAtC {P : Program} {ops : Array Oper} {rest : List Oper} {o : Oper} {a : Act} {w : World} {Q : Exit → Act → World → Prop} (h : wpList P ops Q (o :: rest) a w) : wpList P ops Q (o :: rest) a w := h
/-- A load of a whole array, guarded or not. -/
theorem wpList_loadG {P : Program} {ops : Array Oper} {rest : List Oper} {o : Oper} {a : Act} {w : World} {Q : Exit → Act → World → Prop} (hgd : Region.wanted o (yielded ops a.tmps) = true) (ty : TypeId) (x : Operand) (ho : o.op = .load ty x)
    (g off : Nat) (hx : a.eval x = .pointer (some ⟨g, off, none⟩)) (cs : List Value) (hT : AggT P ty cs.length) (hc : ∀ j v, cs[j]? = some v → w.cell? ⟨g, off + j, none⟩ = some v)
    (h : wpList P ops Q rest (a.put o.dst (.agg cs.toArray)) w) : wpList P ops Q (o :: rest) a w :=
  wpList_step fun _ hK => by
    rw [if_pos hgd]
    unfold Oper.wp execOp
    simp only [ho, hx, Instr.loadAt, Instr.sureAddr, Sem.run_bind, Sem.run_pure, Result.andThen_ok, run_load_agg hT hc]
    exact hK _ _ h
theorem gives_ldC {P : Program} {o : Oper} {a : Act} {w : World} {S : Value → World → Prop} {ty : TypeId} {x : Operand} (ho : o.op = .load ty x) {g off : Nat} (hx : a.eval x = .pointer (some ⟨g, off, none⟩)) {cs : List Value} (hT : AggT P ty cs.length)
    (hc : ∀ j v, cs[j]? = some v → w.cell? ⟨g, off + j, none⟩ = some v) (h : S (.agg cs.toArray) w) : gives P o a w S := by
  unfold gives execOp
  simp only [ho, hx, Instr.loadAt, Instr.sureAddr, Sem.run_bind, Sem.run_pure, Result.andThen_ok, run_load_agg hT hc]
  exact h
theorem gives_store_agg {P : Program} {o : Oper} {a : Act} {w : World} {S : Value → World → Prop} {ty : TypeId} {x y : Operand} (ho : o.op = .store ty x y) {g off : Nat} (hx : a.eval x = .pointer (some ⟨g, off, none⟩)) {vs : Array Value} (hy : a.eval y = .agg vs) (hT : AggT P ty vs.size)
    {t : TypeId} {cur : Array Value} (hb : Blk w g t cur) (hl : off + vs.size ≤ cur.size) (h1 : ∀ v ∈ vs.toList, v.oneCell' = true) (h : ∀ w1, Put w w1 g t (spl cur off vs.toList) → S undef w1) : gives P o a w S := by
  unfold gives execOp
  simp only [ho, hx, hy, Instr.storeAt, Instr.sureAddr, Sem.run_bind, Sem.run_pure, Result.andThen_ok, run_store_agg hT hb hl h1]
  exact h _ (setRow_put hb _)
end Go.Proofs.YtohkfnmggmlogaaDoor
