
/- Chains: Verify, the short ways. -/
import Derived.Test.YtgaefejblmnklaaDoorChF
import Derived.Test.YtgaefejblmnklaaDoorChC
import Derived.Test.YtgaefejblmnklaaDoorFlowK
namespace Go.Proofs.YtgaefejblmnklaaDoor
open Go.RowKit
set_option linter.unusedVariables false
/-- A tree's size and root, as cells. -/
def kcell (m : Nat) (h : List UInt8) : List Value := .int .u64 (m : Int) :: h.map cb
abbrev tKy : Nat := 43
theorem kcell_root {w : World} {g m : Nat} {h : List UInt8} {t : TypeId} (hb : Blk w g t (kcell m h).toArray) : ∀ j v, (h.map cb)[j]? = some v → w.cell? ⟨g, 1 + j, none⟩ = some v := by
  intro j v hv
  rw [hb.cell]
  unfold kcell
  rw [List.getElem?_toArray, Nat.add_comm, List.getElem?_cons_succ]
  exact hv
theorem kcell_size {w : World} {g m : Nat} {h : List UInt8} {t : TypeId} (hb : Blk w g t (kcell m h).toArray) : w.cell? ⟨g, 0, none⟩ = some (.int .u64 (m : Int)) := by rw [hb.cell]; rfl
theorem wpAtC {P : Program} {ops : Array Oper} {rest : List Oper} {o : Oper} {a : Act} {w : World} {Q : Exit → Act → World → Prop} (h : wpList P ops Q (o :: rest) a w) : wpList P ops Q (o :: rest) a w := h
/-- A load of a whole array, guarded or not. -/
theorem wpList_loadG {P : Program} {ops : Array Oper} {rest : List Oper} {o : Oper} {a : Act} {w : World} {Q : Exit → Act → World → Prop} (hgd : Region.wanted o (yielded ops a.tmps) = true) (ty : TypeId) (x : Operand) (ho : o.op = .load ty x)
    (g off : Nat) (hx : a.eval x = .pointer (some ⟨g, off, none⟩)) (cs : List Value) (hT : AggT P ty cs.length) (hc : ∀ j v, cs[j]? = some v → w.cell? ⟨g, off + j, none⟩ = some v)
    (h : wpList P ops Q rest (a.put o.dst (.agg cs.toArray)) w) : wpList P ops Q (o :: rest) a w :=
  wpList_step fun _ hK => by
    rw [if_pos hgd]
    unfold Oper.wp execOp
    simp only [ho, hx, Instr.loadAt, Instr.sureAddr, Sem.run_bind, Sem.run_pure, Result.andThen_ok, run_load_agg hT hc]
    exact hK _ _ h
theorem gives_ldC {P : Program} {o : Oper} {a : Act} {w : World} {S : Value → World → Prop} {ty : TypeId} {x : Operand} (ho : o.op = .load ty x) {g off : Nat} (hx : a.eval x = .pointer (some ⟨g, off, none⟩)) {cs : List Value} (hT : AggT P ty cs.length)
    (hc : ∀ j v, cs[j]? = some v → w.cell? ⟨g, off + j, none⟩ = some v) (h : S (.agg cs.toArray) w) : gives P o a w S := by
  unfold gives execOp
  simp only [ho, hx, Instr.loadAt, Instr.sureAddr, Sem.run_bind, Sem.run_pure, Result.andThen_ok, run_load_agg hT hc]
  exact h
theorem gives_store_agg {P : Program} {o : Oper} {a : Act} {w : World} {S : Value → World → Prop} {ty : TypeId} {x y : Operand} (ho : o.op = .store ty x y) {g off : Nat} (hx : a.eval x = .pointer (some ⟨g, off, none⟩)) {vs : Array Value} (hy : a.eval y = .agg vs) (hT : AggT P ty vs.size)
    {t : TypeId} {cur : Array Value} (hb : Blk w g t cur) (hl : off + vs.size ≤ cur.size) (h1 : ∀ v ∈ vs.toList, v.oneCell' = true) (h : ∀ w1, Put w w1 g t (spl cur off vs.toList) → S undef w1) : gives P o a w S := by
  unfold gives execOp
  simp only [ho, hx, hy, Instr.storeAt, Instr.sureAddr, Sem.run_bind, Sem.run_pure, Result.andThen_ok, run_store_agg hT hb hl h1]
  exact h _ (setRow_put hb _)
set_option maxRecDepth 10000 in
set_option maxHeartbeats 1000000 in
theorem Verify_range (w : World) (m n p c : Nat) (A : Option Addr) (old now : List UInt8) (hm : m < 18446744073709551616) (hn : n < 18446744073709551616) (h : m < 1 ∨ n < m) :
    Calls Tryd.prog 16 #[.agg (kcell m old).toArray, .agg (kcell n now).toArray, .slice A p c] w fun e w' => e = .returned (.int .i64 15) ∧ Below w.heap.size w w' := by
  have hA : Blk ((w.alloc (.cells (kcell m old).toArray tKy)).alloc (.cells (kcell n now).toArray tKy)) w.heap.size tKy (kcell m old).toArray := (Blk.new w _ _).alloc _
  have hB : Blk ((w.alloc (.cells (kcell m old).toArray tKy)).alloc (.cells (kcell n now).toArray tKy)) (w.heap.size + 1) tKy (kcell n now).toArray := by
    have := Blk.new (w.alloc (.cells (kcell m old).toArray tKy)) tKy (kcell n now).toArray
    rwa [World.size_alloc] at this
  have hb0 : Below w.heap.size w ((w.alloc (.cells (kcell m old).toArray tKy)).alloc (.cells (kcell n now).toArray tKy)) := bx_alloc (bx_alloc (Below.refl _ _) _) _
  go_enter Tryd.func16, Tryd.ntmps16
  go_wp2_with fail
  generalize (w.alloc (.cells (kcell m old).toArray tKy)).alloc (.cells (kcell n now).toArray tKy) = w1 at *
  obtain ⟨g3, hg3⟩ : ∃ g3, g3 = w.heap.size := ⟨_, rfl⟩
  obtain ⟨g4, hg4⟩ : ∃ g4, g4 = w.heap.size + 1 := ⟨_, rfl⟩
  rw [← hg4] at hB ⊢
  rw [← hg3] at hA ⊢
  clear hg3 hg4
  refine wp_flow (by kernel_rfl) [0, 1, 0, 4, 3, 31] 5 [false, false, false, false, false, false, false, true, false, false, false, false, false, false, false, false, true, true, true, true] (by kernel_rfl) (by decide) (by kernel_rfl) [FP.eq (.pointer (some ⟨g3, 0, none⟩)), FP.eq (.int .u64 (m : Int)), FP.eq (.pointer (some ⟨g4, 0, none⟩)), FP.eq (.int .u64 (n : Int)), FP.eq (.int .u64 (m : Int))] ?_ ?_
  · refine allFrom_cons ?_ ?_
    · intro a_ w_ hk_
      have h3 : a_.eval (.tmp 3) = .pointer (some ⟨g3, 0, none⟩) := hk_.old 3 (by kernel_rfl)
      have hx_ := hk_.ext
      clear hk_
      refine flow_plain rfl ?_
      unfold gives
      have hc_ : ∀ v, a_.eval (.const v) = v := fun _ => rfl
      have hn_ : ∀ f, a_.eval (.func f) = .func (.func f) #[] #[] := fun _ => rfl
      generalize a_.eval = ρ_ at *
      go_simp
      exact ⟨Below.refl _ _, rfl⟩
    refine allFrom_cons ?_ ?_
    · intro a_ w_ hk_
      have h16 : a_.eval (.tmp 16) = (.pointer (some ⟨g3, 0, none⟩)) := hk_.got 0 16 _ (by kernel_rfl) rfl rfl
      have hx_ := hk_.ext
      clear hk_
      refine flow_plain rfl ?_
      unfold gives
      have hc_ : ∀ v, a_.eval (.const v) = v := fun _ => rfl
      have hn_ : ∀ f, a_.eval (.func f) = .func (.func f) #[] #[] := fun _ => rfl
      have hcell := kcell_size (hA.below hx_ hA.lt)
      generalize a_.eval = ρ_ at *
      go_simp
      exact ⟨Below.refl _ _, rfl⟩
    refine allFrom_cons ?_ ?_
    · intro a_ w_ hk_
      have h4 : a_.eval (.tmp 4) = .pointer (some ⟨g4, 0, none⟩) := hk_.old 4 (by kernel_rfl)
      have hx_ := hk_.ext
      clear hk_
      refine flow_plain rfl ?_
      unfold gives
      have hc_ : ∀ v, a_.eval (.const v) = v := fun _ => rfl
      have hn_ : ∀ f, a_.eval (.func f) = .func (.func f) #[] #[] := fun _ => rfl
      generalize a_.eval = ρ_ at *
      go_simp
      exact ⟨Below.refl _ _, rfl⟩
    refine allFrom_cons ?_ ?_
    · intro a_ w_ hk_
      have h18 : a_.eval (.tmp 18) = (.pointer (some ⟨g4, 0, none⟩)) := hk_.got 2 18 _ (by kernel_rfl) rfl rfl
      have hx_ := hk_.ext
      clear hk_
      refine flow_plain rfl ?_
      unfold gives
      have hc_ : ∀ v, a_.eval (.const v) = v := fun _ => rfl
      have hn_ : ∀ f, a_.eval (.func f) = .func (.func f) #[] #[] := fun _ => rfl
      have hcell := kcell_size (hB.below hx_ hB.lt)
      generalize a_.eval = ρ_ at *
      go_simp
      exact ⟨Below.refl _ _, rfl⟩
    refine allFrom_cons ?_ ?_
    · intro a_ w_ hk_
      have h17 : a_.eval (.tmp 17) = (.int .u64 (m : Int)) := hk_.got 1 17 _ (by kernel_rfl) rfl rfl
      have hx_ := hk_.ext
      clear hk_
      refine flow_plain rfl ?_
      exact gives_assign rfl ⟨Below.refl _ _, h17⟩
    exact allFrom_nil
  intro f_ w_ hx_ hf_
  have h16 : f_ 16 = (.pointer (some ⟨g3, 0, none⟩)) := hf_ 0 16 _ (by decide) rfl rfl
  have h17 : f_ 17 = (.int .u64 (m : Int)) := hf_ 1 17 _ (by decide) rfl rfl
  have h18 : f_ 18 = (.pointer (some ⟨g4, 0, none⟩)) := hf_ 2 18 _ (by decide) rfl rfl
  have h19 : f_ 19 = (.int .u64 (n : Int)) := hf_ 3 19 _ (by decide) rfl rfl
  have h7 : f_ 7 = (.int .u64 (m : Int)) := hf_ 4 7 _ (by decide) rfl rfl
  simp only [mix, List.drop_succ_cons, List.drop_zero, h16, h17, h18, h19, h7]
  clear h16 h17 h18 h19 h7
  clear hf_
  have hb1 := bx_trans hb0 hx_
  clear hA hB hb0 hx_
  by_cases h1 : m < 1
  · go_wp2
    go_ret
    exact ⟨rfl, hb1⟩
  · have h2 : n < m := by omega
    go_wp2
    go_ret
    exact ⟨rfl, hb1⟩
end Go.Proofs.YtgaefejblmnklaaDoor
