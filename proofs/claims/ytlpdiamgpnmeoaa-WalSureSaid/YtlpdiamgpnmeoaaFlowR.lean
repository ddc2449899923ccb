
/- A region that leaves its order open, within a round: the rule wp_flowQ there. -/
import Derived.Test.YtlpdiamgpnmeoaaFlowQ
import Derived.OrdersIn
import Derived.RangeFuncCalls
namespace Go.Proofs.Ytlpdiamgpnmeoaa
open Go.RowKit
set_option linter.unusedVariables false
def noDefer (l : List Oper) : Bool := l.all fun o => match o.op with | .defer _ => false | _ => true
theorem noDefer_at {l : List Oper} (h : noDefer l = true) {i : Nat} {o : Oper} (ho : l.toArray[i]? = some o) : ∀ c, o.op ≠ .defer c := by
  intro c hc
  unfold noDefer at h
  rw [List.all_eq_true] at h
  have := h o (List.mem_of_getElem? (by simpa using ho))
  rw [hc] at this
  cases this
theorem semAt_exec' {r : Option Nat} {o : Oper} (ρ : Operand → Value) (h : ∀ c, o.op ≠ .defer c) : o.semAt r ρ = execOp ρ o := by
  cases r with
  | none => rfl
  | some l => exact Oper.semAt_some l ρ o h
theorem op_lift {k n : Nat} {P : Program} {o : Oper} {a : Act} {w : World} {K : Act → World → Prop} {Q : Exit → Act → World → Prop} (hd : ∀ c, o.op ≠ .defer c) (h : o.wp P a w K Q) : o.wpIn (Fence.wide.inRound k) n P a w K Q := by
  refine ⟨fun _ _ => trivial, ?_⟩
  rw [semAt_exec' _ hd]
  unfold Oper.wp at h
  generalize (execOp a.eval o).run P w = r at *
  cases r with
  | ok x w' =>
    cases x with
    | value v => exact h
    | skip => exact h
    | defer d => exact h
    | enter f args => exact ⟨fun hh => (by cases hh), CallsIn.inRound k (callsIn_wide.2 h)⟩
    | row s args => exact ⟨fun hh => (by cases hh), fun c cs _ => let ⟨v, w', r, s⟩ := h c cs; ⟨v, w', r, stepsIn_wide.2 s⟩⟩
    | _ => exact h.elim
  | halt x w' => cases x <;> exact h
theorem wpAny_lift {k n : Nat} {P : Program} {l : List Oper} {Q : Exit → Act → World → Prop} (hL : ¬ LetsOut Q) (hd : noDefer l = true) : ∀ (fuel : Nat) (listed : Array Bool) (a : Act) (w : World), wpAny P .any l.toArray Q fuel listed a w → wpAnyIn (Fence.wide.inRound k) n P .any l.toArray Q fuel listed a w
  | 0, _, _, _, h => h
  | fuel + 1, listed, a, w, h => by
    refine ⟨h.1, fun i hi => ?_⟩
    have h2 := h.2 i hi
    unfold wpOp at h2
    unfold wpOpIn
    cases ho : l.toArray[i]? with
    | none =>
      rw [ho] at h2
      exact wpAny_lift hL hd fuel _ _ _ h2
    | some o =>
      rw [ho] at h2
      simp only [] at h2 ⊢
      split
      · rename_i hw
        rw [if_pos hw] at h2
        rcases h2 with h2 | h2
        · exact Oper.wpIn_mono (fun a w hh => wpAny_lift hL hd fuel _ _ _ hh) (op_lift (noDefer_at hd ho) h2)
        · exact absurd h2.2 hL
      · rename_i hw
        rw [if_neg hw] at h2
        exact ⟨fun _ _ => trivial, wpAny_lift hL hd fuel _ _ _ h2⟩
/-- **The rule**, an obligation an operation; behind operation q of the others just their values are known. -/
theorem wp_flowQIn {kr nr : Nat} {P : Program} {id : Nat} {l : List Oper} {l0 : List Value} {d0 : List Deferred} {w0 : World} {Q : Exit → Act → World → Prop} (hL : ¬ LetsOut Q) (hnd : noDefer l = true) (hmix : P.follows .mixedOrders = true) (D : List Nat) (q : Nat) (W : List Bool)
    (hok : flowOk l D l0.length (q + 1) = true) (hm : q + 1 ≤ l.length) (hW : wOk l (q + 1) W = true) (F : List FP) (T : Value → World → Prop)
    (hstep : AllFrom (fun i o => StepQ P l D q F { tmps := l0.toArray, defers := d0 } w0 i o) 0 q l)
    (hq : ∀ (o : Oper), l[q]? = some o → o.guard = none ∧ ∀ a w, Known l D l0.length (fun i => (F.getD i FP.any).p) { tmps := l0.toArray, defers := d0 } w0 q a w → gives P o a w T)
    (hend : ∀ (f : Nat → Value) w, (∀ (j : Nat) (s : Tmp) (o : Oper), j < q → l[j]? = some o → o.dst = some s → ∃ w1, (F.getD j FP.any).p (f s) w1) → (∀ (s : Tmp) (o : Oper), l[q]? = some o → o.dst = some s → T (f s) w) →
      wpList P l.toArray Q (l.drop (q + 1)) { tmps := (mix W l0 f 0).toArray, defers := d0 } w) :
    (Code.region id l.toArray true).wpIn (Fence.wide.inRound kr) nr P Q { tmps := l0.toArray, defers := d0 } w0 := by
  refine wpIn_region_any hmix (wpAny_lift hL hnd _ _ _ _ ?_)
  have FL := flow_of hok
  have FL' : Flow l D ({ tmps := l0.toArray, defers := d0 } : Act).tmps.size (q + 1) := by simpa using FL
  refine wpAny_flowA (w0 := w0) FL' hm (fun i => (F.getD i FP.any).p) T (fun i => (F.getD i FP.any).mono) (fun i o hi ho hb => ?_) (fun i o hi ho hb => ?_) (fun o ho => ?_) (fun a w h2 h3 h4 h5 h6 => ?_) _ _ _ _ (List.range l.length) (by simp) (fun j hj _ => List.mem_range.2 hj) ⟨by simp, ?_, ?_, rfl, rfl, ?_, fun s _ => rfl⟩ ?_ ?_
  · have := allFrom_get q l 0 hstep i o hi ho
    rw [Nat.zero_add] at this
    unfold StepQ at this
    rwa [if_neg (by rw [hb]; decide)] at this
  · have := allFrom_get q l 0 hstep i o hi ho
    rw [Nat.zero_add] at this
    unfold StepQ at this
    rwa [if_pos hb] at this
  · have := hq o ho
    simpa using this
  · have := hend (fun s => a.eval (.tmp s)) w h4 h5
    have e : a = { tmps := (mix W l0 (fun s => a.eval (.tmp s)) 0).toArray, defers := d0 } := by
      refine act_ext h2 (by rw [length_mix]; simpa using h3) fun i v hv => ?_
      have hi : i < l0.length := by
        have := (List.getElem?_eq_some_iff.1 hv).1
        rwa [length_mix] at this
      rw [get_mix _ _ _ _ _ hi] at hv
      split at hv
      · injection hv with hv
        rw [← hv, Nat.zero_add]
      · rename_i hw
        rw [h6 i fun j o hj ho hs => ?_]
        · simp [Act.eval, hv]
        · unfold wOk at hW
          rw [List.all_eq_true] at hW
          have hmem : o ∈ l.take (q + 1) := by
            refine List.mem_of_getElem? (i := j) ?_
            rw [List.getElem?_take, if_pos hj, ho]
          have := hW o hmem
          rw [hs] at this
          exact hw this
    rw [← e] at this
    exact this
  · intro i o _ h
    simp [Array.getElem?_replicate] at h
    split at h <;> simp_all
  · exact (Below.refl _ w0).drew
  · intro j o s _ _ h
    simp [Array.getElem?_replicate] at h
    split at h <;> simp_all
  · simp [Array.getElem?_replicate]
    split <;> simp
  · intro j _
    simp [Array.getElem?_replicate]
    split <;> simp
end Go.Proofs.Ytlpdiamgpnmeoaa
