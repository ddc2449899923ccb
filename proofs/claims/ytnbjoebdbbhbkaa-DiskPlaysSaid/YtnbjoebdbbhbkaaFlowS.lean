
/- The rule of XFlow for a region whose order is fixed: an obligation an operation. -/
import Derived.Test.YtnbjoebdbbhbkaaFlowK
namespace Go.Proofs.Ytnbjoebdbbhbkaa
open Go.RowKit
set_option linter.unusedVariables false
def seqOk (l : List Oper) (D : List Nat) (n : Nat) : Bool :=
  (List.range l.length).all fun i =>
    match l[i]? with
    | none => true
    | some o =>
      ((List.range l.length).all fun j => !(D.getD i 0).testBit j || decide (j < i)) &&
      (match o.dst with | none => true | some s => decide (s < n) && (List.range l.length).all fun j => j == i || (match l[j]? with | some o' => o'.dst != some s | none => true))
structure SeqL (l : List Oper) (D : List Nat) (n : Nat) : Prop where
  bits : ∀ (i j : Nat) (o : Oper), l[i]? = some o → j < l.length → (D.getD i 0).testBit j = true → j < i
  room : ∀ (i : Nat) (o : Oper) (s : Tmp), l[i]? = some o → o.dst = some s → s < n
  once : ∀ (i j : Nat) (o o' : Oper) (s : Tmp), l[i]? = some o → l[j]? = some o' → o.dst = some s → o'.dst = some s → j = i
theorem seq_of {l : List Oper} {D : List Nat} {n : Nat} (h : seqOk l D n = true) : SeqL l D n := by
  unfold seqOk at h
  rw [List.all_eq_true] at h
  have key : ∀ (i : Nat) (o : Oper), l[i]? = some o → i < l.length := fun i o ho => (List.getElem?_eq_some_iff.1 ho).1
  have hh : ∀ (i : Nat) (o : Oper), l[i]? = some o → ((List.range l.length).all fun j => !(D.getD i 0).testBit j || decide (j < i)) = true ∧
      (match o.dst with | none => true | some s => decide (s < n) && (List.range l.length).all fun j => j == i || (match l[j]? with | some o' => o'.dst != some s | none => true)) = true := fun i o ho => by
    have := h i (List.mem_range.2 (key i o ho))
    rw [ho] at this
    simpa only [Bool.and_eq_true] using this
  refine ⟨fun i j o ho hj hb => ?_, fun i o s ho hs => ?_, fun i j o o' s ho ho' hs hs' => ?_⟩
  · have h1 := (hh i o ho).1
    rw [List.all_eq_true] at h1
    have h2 := h1 j (List.mem_range.2 hj)
    rw [hb] at h2
    simpa using h2
  · have h1 := (hh i o ho).2
    rw [hs] at h1
    simp only [Bool.and_eq_true, decide_eq_true_eq] at h1
    exact h1.1
  · have h1 := (hh i o ho).2
    rw [hs] at h1
    simp only [Bool.and_eq_true, List.all_eq_true] at h1
    have h2 := h1.2 j (List.mem_range.2 (key j o' ho'))
    rw [ho'] at h2
    simpa [hs'] using h2
structure SInv (l : List Oper) (R : Nat → Value → World → Prop) (a0 : Act) (w0 : World) (i : Nat) (a : Act) (w : World) : Prop where
  ext : Below w0.heap.size w0 w
  defers : a.defers = a0.defers
  tsize : a.tmps.size = a0.tmps.size
  vals : ∀ (j : Nat) (o : Oper) (s : Tmp), j < i → l[j]? = some o → o.dst = some s → R j (a.eval (.tmp s)) w
  init : ∀ (s : Tmp), (∀ (j : Nat) (o : Oper), j < i → l[j]? = some o → o.dst ≠ some s) → a.eval (.tmp s) = a0.eval (.tmp s)
theorem SInv.step {l : List Oper} {D : List Nat} {R : Nat → Value → World → Prop} {a0 a : Act} {w0 w w' : World} {i : Nat} (F : SeqL l D a0.tmps.size)
    (mono : ∀ i v w w', Below w.heap.size w w' → R i v w → R i v w') (I : SInv l R a0 w0 i a w) {o : Oper} (ho : l[i]? = some o) {v : Value} (hb : Below w.heap.size w w') (hR : R i v w') : SInv l R a0 w0 (i + 1) (a.put o.dst v) w' := by
  refine ⟨bx_trans I.ext hb, (put_defers' a _ v).trans I.defers, (put_size a _ v).trans I.tsize, fun j oj s hji hj hs => ?_, fun s hs => ?_⟩
  · by_cases e : j = i
    · subst e
      rw [ho] at hj
      injection hj with hj
      subst hj
      rw [hs, eval_put_same (by rw [I.tsize]; exact F.room _ _ _ ho hs)]
      exact hR
    · rw [eval_put_other (fun h => e (F.once i j o oj s ho hj h hs))]
      exact mono _ _ _ _ hb (I.vals j oj s (by omega) hj hs)
  · rw [eval_put_other (hs i o (by omega) ho)]
    exact I.init s fun j oj hji hj => hs j oj (by omega) hj
theorem SInv.known {l : List Oper} {D : List Nat} {R : Nat → Value → World → Prop} {a0 a : Act} {w0 w : World} {i : Nat} (F : SeqL l D a0.tmps.size) {o : Oper} (ho : l[i]? = some o) (I : SInv l R a0 w0 i a w) : Known l D a0.tmps.size R a0 w0 i a w := by
  refine ⟨I.ext, fun j s oj hb hj hs => I.vals j oj s (F.bits i j o ho (List.getElem?_eq_some_iff.1 hj).1 hb) hj hs, fun s hs => I.init s fun j oj hji hj hjs => ?_, fun j oj s b hj hjs hb => ?_⟩
  · rw [List.all_eq_true] at hs
    have hjl := (List.getElem?_eq_some_iff.1 hj).1
    have h1 := hs j (List.mem_range.2 hjl)
    rw [hj] at h1
    simp only [hjs, bne_self_eq_false, Bool.false_or, Bool.or_eq_true, beq_iff_eq] at h1
    rcases h1 with h1 | h1
    · omega
    · have := F.bits j i oj hj (List.getElem?_eq_some_iff.1 ho).1 h1
      omega
  · have hlt : s < a.tmps.size := by rw [I.tsize]; exact F.room j oj s hj hjs
    have hb' : a.tmps[s]? = some (.bool b) := by
      have : a.eval (.tmp s) = a.tmps[s] := by simp [Act.eval, hlt]
      rw [this] at hb
      rw [Array.getElem?_eq_getElem hlt, hb]
    simp [yielded, hj, hjs, hb']
/-- **The rule**, an operation behind the other. -/
theorem wp_flowS {P : Program} {l : List Oper} {l0 : List Value} {d0 : List Deferred} {w0 : World} {Q : Exit → Act → World → Prop} (D : List Nat) (m : Nat) (W : List Bool)
    (hok : seqOk l D l0.length = true) (hm : m ≤ l.length) (hW : wOk l m W = true) (F : List FP)
    (hstep : AllFrom (fun i o => ∀ a w, Known l D l0.length (fun i => (F.getD i FP.any).p) { tmps := l0.toArray, defers := d0 } w0 i a w →
      if Region.wanted o (yielded l.toArray a.tmps) = true then gives P o a w (fun v w' => Below w.heap.size w w' ∧ (F.getD i FP.any).p v w') else (F.getD i FP.any).p undef w) 0 m l)
    (hend : ∀ (f : Nat → Value) w, Below w0.heap.size w0 w → (∀ (j : Nat) (s : Tmp) (o : Oper), j < m → l[j]? = some o → o.dst = some s → (F.getD j FP.any).p (f s) w) →
      wpList P l.toArray Q (l.drop m) { tmps := (mix W l0 f 0).toArray, defers := d0 } w) :
    wpList P l.toArray Q l { tmps := l0.toArray, defers := d0 } w0 := by
  have hok' : SeqL l D ({ tmps := l0.toArray, defers := d0 } : Act).tmps.size := by simpa using seq_of hok
  generalize ha0 : ({ tmps := l0.toArray, defers := d0 } : Act) = a0 at hok' ⊢
  have hsz : a0.tmps.size = l0.length := by rw [← ha0]; simp
  have main : ∀ (k i : Nat) (a : Act) (w : World), i + k = m → SInv l (fun i => (F.getD i FP.any).p) a0 w0 i a w → wpList P l.toArray Q (l.drop i) a w := by
    intro k
    induction k with
    | zero =>
      intro i a w hi I
      obtain rfl : i = m := by omega
      have := hend (fun s => a.eval (.tmp s)) w I.ext (fun j s o hj ho hs => I.vals j o s hj ho hs)
      have e : a = { tmps := (mix W l0 (fun s => a.eval (.tmp s)) 0).toArray, defers := d0 } := by
        refine act_ext (by rw [I.defers, ← ha0]) (by rw [length_mix, I.tsize, hsz]) fun t v hv => ?_
        have ht : t < l0.length := by
          have := (List.getElem?_eq_some_iff.1 hv).1
          rwa [length_mix] at this
        rw [get_mix _ _ _ _ _ ht] at hv
        split at hv
        · injection hv with hv
          rw [← hv, Nat.zero_add]
        · rename_i hw
          rw [I.init t fun j o hj ho hs => ?_]
          · rw [← ha0]; simp [Act.eval, hv]
          · unfold wOk at hW
            rw [List.all_eq_true] at hW
            have hmem : o ∈ l.take i := by
              refine List.mem_of_getElem? (i := j) ?_
              rw [List.getElem?_take, if_pos hj, ho]
            have := hW o hmem
            rw [hs] at this
            exact hw this
      rw [← e] at this
      exact this
    | succ k ih =>
      intro i a w hi I
      have hil : i < l.length := by omega
      have ho : l[i]? = some l[i] := List.getElem?_eq_getElem hil
      rw [List.drop_eq_getElem_cons hil]
      have hs := allFrom_get m l 0 hstep i l[i] (by omega) ho
      rw [Nat.zero_add] at hs
      have hs := hs a w (by have := I.known hok' ho; rw [ha0]; rwa [hsz] at this)
      refine wpList_step fun K hK => ?_
      split
      · rename_i hw
        rw [if_pos hw] at hs
        exact wp_of_gives hs fun v w' ⟨hb, hR⟩ => hK _ _ (ih (i + 1) _ _ (by omega) (I.step hok' (fun i => (F.getD i FP.any).mono) ho hb hR))
      · rename_i hw
        rw [if_neg hw] at hs
        exact hK _ _ (ih (i + 1) _ _ (by omega) (I.step hok' (fun i => (F.getD i FP.any).mono) ho (Below.refl _ _) hs))
  have := main m 0 a0 w0 (by omega) ⟨Below.refl _ _, rfl, rfl, fun j o s hj => absurd hj (by omega), fun s _ => rfl⟩
  simpa using this
/-- The whole region. -/
theorem wp_flowSE {P : Program} {l : List Oper} {l0 : List Value} {d0 : List Deferred} {w0 : World} {Q : Exit → Act → World → Prop} (D : List Nat) (m : Nat) (W : List Bool)
    (hok : seqOk l D l0.length = true) (hm : (l.length == m) = true) (hW : wOk l m W = true) (F : List FP)
    (hstep : AllFrom (fun i o => ∀ a w, Known l D l0.length (fun i => (F.getD i FP.any).p) { tmps := l0.toArray, defers := d0 } w0 i a w →
      if Region.wanted o (yielded l.toArray a.tmps) = true then gives P o a w (fun v w' => Below w.heap.size w w' ∧ (F.getD i FP.any).p v w') else (F.getD i FP.any).p undef w) 0 m l)
    (hend : ∀ (f : Nat → Value) w, Below w0.heap.size w0 w → (∀ (j : Nat) (s : Tmp) (o : Oper), j < m → l[j]? = some o → o.dst = some s → (F.getD j FP.any).p (f s) w) →
      wpList P l.toArray Q [] { tmps := (mix W l0 f 0).toArray, defers := d0 } w) :
    wpList P l.toArray Q l { tmps := l0.toArray, defers := d0 } w0 := by
  have hm' : l.length = m := by simpa using hm
  refine wp_flowS D m W hok (by omega) hW F hstep fun f w h1 h2 => ?_
  rw [List.drop_eq_nil_of_le (by omega)]
  exact hend f w h1 h2
/-- A walk that stops ahead of a region: 'repeat (fail_if_success (with_reducible refine wpHalt N ?_)); go_step'. -/
theorem wpHalt {P : Program} {Q : Exit → Act → World → Prop} {a : Act} {w : World} (id : Nat) {ops : Array Oper} {b : Bool} (h : (Code.region id ops b).wp P Q a w) : (Code.region id ops b).wp P Q a w := h
end Go.Proofs.Ytnbjoebdbbhbkaa
