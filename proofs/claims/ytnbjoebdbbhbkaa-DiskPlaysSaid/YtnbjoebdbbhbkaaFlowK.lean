
/- A region that leaves its order open, in which several operations turn memory, one behind the other, while others that wait for none of them may come at any time: 'K' tells what memory is, by the values that those operations have come to as yet. -/
import Derived.Test.YtnbjoebdbbhbkaaFlowQ
namespace Go.Proofs.Ytnbjoebdbbhbkaa
open Go.RowKit
set_option linter.unusedVariables false
section
variable {P : Program}
abbrev KP := Value → Prop
abbrev KP.any : KP := fun _ => True
abbrev KP.eq (x : Value) : KP := fun v => v = x
def upd (f : Nat → Option Value) (i : Nat) (v : Value) : Nat → Option Value := fun j => if j = i then some v else f j
theorem upd_same (f : Nat → Option Value) (i : Nat) (v : Value) : upd f i v i = some v := if_pos rfl
theorem upd_ne (f : Nat → Option Value) {i j : Nat} (v : Value) (h : j ≠ i) : upd f i v j = f j := if_neg h
/-- What an operation may lean on when its turn comes. -/
structure KnownK (l : List Oper) (D : List Nat) (R : Nat → KP) (a0 : Act) (f : Nat → Option Value) (i : Nat) (a : Act) : Prop where
  got : ∀ (j : Nat) (s : Tmp) (o : Oper), (D.getD i 0).testBit j = true → l[j]? = some o → o.dst = some s → R j (a.eval (.tmp s))
  val : ∀ (j : Nat) (s : Tmp) (o : Oper), (D.getD i 0).testBit j = true → l[j]? = some o → o.dst = some s → f j = some (a.eval (.tmp s))
  done : ∀ (j : Nat) (o : Oper), (D.getD i 0).testBit j = true → l[j]? = some o → ∃ v, f j = some v
  un : f i = none
  later : ∀ (j : Nat) (o : Oper), (D.getD j 0).testBit i = true → l[j]? = some o → f j = none
  old : ∀ (s : Tmp), ((List.range l.length).all fun j => match l[j]? with | some o => o.dst != some s || j == i || (D.getD j 0).testBit i | none => true) = true → a.eval (.tmp s) = a0.eval (.tmp s)
  want : ∀ (j : Nat) (o : Oper) (s : Tmp) (b : Bool), l[j]? = some o → o.dst = some s → a.eval (.tmp s) = .bool b → yielded l.toArray a.tmps j = some b
structure KInv (l : List Oper) (R : Nat → KP) (K : (Nat → Option Value) → World → Prop) (a0 : Act) (f : Nat → Option Value) (listed : Array Bool) (a : Act) (w : World) : Prop where
  size : listed.size = l.length
  closed : ∀ (i : Nat) (o : Oper), l[i]? = some o → listed.getD i false = true → ∀ e ∈ o.after, Region.binds .any e = true → listed.getD e.on false = true
  defers : a.defers = a0.defers
  tsize : a.tmps.size = a0.tmps.size
  vals : ∀ (j : Nat) (o : Oper) (s : Tmp), l[j]? = some o → o.dst = some s → listed.getD j false = true → R j (a.eval (.tmp s)) ∧ f j = some (a.eval (.tmp s))
  fsome : ∀ (j : Nat), listed.getD j false = true → ∃ v, f j = some v
  fnone : ∀ (j : Nat), listed.getD j false = false → f j = none
  init : ∀ (s : Tmp), (∀ (j : Nat) (o : Oper), l[j]? = some o → o.dst = some s → listed.getD j false = false) → a.eval (.tmp s) = a0.eval (.tmp s)
  mem : K f w
theorem KInv.step {l : List Oper} {D : List Nat} {m : Nat} {R : Nat → KP} {K : (Nat → Option Value) → World → Prop} {a0 a : Act} {w w' : World} {f : Nat → Option Value} {listed : Array Bool} (F : Flow l D a0.tmps.size m)
    (I : KInv l R K a0 f listed a w) {i : Nat} {o : Oper} (ho : l[i]? = some o) (hun : listed.getD i false = false)
    (hd : ∀ e ∈ o.after, Region.binds .any e = true → listed.getD e.on false = true) {v : Value} (hm : K (upd f i v) w') (hR : R i v) : KInv l R K a0 (upd f i v) (listed.setIfInBounds i true) (a.put o.dst v) w' := by
  have hi := (List.getElem?_eq_some_iff.1 ho).1
  have hsame : (listed.setIfInBounds i true).getD i false = true := by
    have : i < listed.size := by rw [I.size]; exact hi
    simp [this]
  have hoth : ∀ j, j ≠ i → (listed.setIfInBounds i true).getD j false = listed.getD j false := fun j hj => getD_set_ne false (Ne.symm hj)
  refine ⟨by simpa using I.size, fun j oj hj hl e he hbe => ?_, (put_defers' a _ v).trans I.defers, (put_size a _ v).trans I.tsize, fun j oj s hj hs hl => ?_, fun j hl => ?_, fun j hl => ?_, fun s hs => ?_, hm⟩
  · by_cases hji : j = i
    · subst hji
      rw [ho] at hj
      injection hj with hj
      subst hj
      exact getD_set_true (hd e he hbe)
    · rw [hoth j hji] at hl
      exact getD_set_true (I.closed j oj hj hl e he hbe)
  · by_cases hji : j = i
    · subst hji
      rw [ho] at hj
      injection hj with hj
      subst hj
      rw [hs, eval_put_same (by rw [I.tsize]; exact F.room _ _ _ ho hs), upd_same]
      exact ⟨hR, rfl⟩
    · rw [hoth j hji] at hl
      rw [eval_put_other (fun h => hji (F.once i j o oj s ho hj h hs)), upd_ne _ _ hji]
      exact I.vals j oj s hj hs hl
  · by_cases hji : j = i
    · subst hji; exact ⟨v, upd_same _ _ _⟩
    · rw [hoth j hji] at hl
      rw [upd_ne _ _ hji]
      exact I.fsome j hl
  · by_cases hji : j = i
    · subst hji; rw [hsame] at hl; cases hl
    · rw [hoth j hji] at hl
      rw [upd_ne _ _ hji]
      exact I.fnone j hl
  · have hne : o.dst ≠ some s := fun h => by
      have := hs i o ho h
      rw [hsame] at this
      cases this
    rw [eval_put_other hne]
    refine I.init s fun j oj hj hjs => ?_
    have h1 := hs j oj hj hjs
    by_cases hji : j = i
    · subst hji; exact hun
    · rwa [hoth j hji] at h1
theorem wpAny_flowK {l : List Oper} {D : List Nat} {m : Nat} {a0 : Act} {Q : Exit → Act → World → Prop} (F : Flow l D a0.tmps.size m) (hm : m ≤ l.length) (R : Nat → KP) (K : (Nat → Option Value) → World → Prop)
    (hstep : ∀ (i : Nat) (o : Oper), i < m → l[i]? = some o → ∀ f a w, K f w → KnownK l D R a0 f i a → if Region.wanted o (yielded l.toArray a.tmps) = true then gives P o a w (fun v w' => K (upd f i v) w' ∧ R i v) else K (upd f i undef) w ∧ R i undef)
    (hend : ∀ f a w, K f w → a.defers = a0.defers → a.tmps.size = a0.tmps.size → (∀ (j : Nat) (s : Tmp) (o : Oper), j < m → l[j]? = some o → o.dst = some s → R j (a.eval (.tmp s)) ∧ f j = some (a.eval (.tmp s))) → (∀ (j : Nat), j < m → ∃ v, f j = some v) →
      (∀ (s : Tmp), (∀ (j : Nat) (o : Oper), j < m → l[j]? = some o → o.dst ≠ some s) → a.eval (.tmp s) = a0.eval (.tmp s)) → wpList P l.toArray Q (l.drop m) a w) :
    ∀ (fuel : Nat) (f : Nat → Option Value) (listed : Array Bool) (a : Act) (w : World) (un : List Nat), un.length ≤ fuel → (∀ j, j < l.length → listed.getD j false = false → j ∈ un) → KInv l R K a0 f listed a w → (∀ j, m ≤ j → listed.getD j false = false) →
      wpAny P .any l.toArray Q fuel listed a w := by
  have hfin : ∀ (fuel : Nat) (f : Nat → Option Value) (listed : Array Bool) (a : Act) (w : World) (un : List Nat), un.length ≤ fuel → (∀ j, j < l.length → listed.getD j false = false → j ∈ un) → KInv l R K a0 f listed a w → (∀ j, m ≤ j → listed.getD j false = false) →
      (∀ j, j < m → listed.getD j false = true) → wpAny P .any l.toArray Q fuel listed a w := by
    intro fuel f listed a w un hun hmem I htail hall
    refine wpAny_seq F fuel m listed a w (Nat.le_refl _) hm ?_ I.size (fun j hj => ?_) (hend f a w I.mem I.defers I.tsize (fun j s o hj ho hs => I.vals j o s ho hs (hall j hj)) (fun j hj => I.fsome j (hall j hj)) fun s hs => I.init s fun j o ho hjs => ?_)
    · have := seq_count hmem htail
      omega
    · constructor
      · intro h
        rcases Nat.lt_or_ge j m with h1 | h1
        · exact h1
        · have := htail j h1; rw [h] at this; cases this
      · exact hall j
    · rcases Nat.lt_or_ge j m with h1 | h1
      · exact absurd hjs (hs j o h1 ho)
      · exact htail j h1
  intro fuel
  induction fuel with
  | zero =>
    intro f listed a w un hun hmem I htail
    refine hfin 0 f listed a w un hun hmem I htail fun j hj => ?_
    have hnil : un = [] := List.eq_nil_of_length_eq_zero (by omega)
    subst hnil
    cases hx : listed.getD j false with
    | true => rfl
    | false => exact absurd (hmem j (by omega) hx) (by simp)
  | succ fuel ih =>
    intro f listed a w un hun hmem I htail
    by_cases hall : ∀ j, j < m → listed.getD j false = true
    · exact hfin (fuel + 1) f listed a w un hun hmem I htail hall
    · have hex : ∃ j, j < m ∧ listed.getD j false = false := by
        apply Classical.byContradiction
        intro hno
        apply hall
        intro j hj
        cases hx : listed.getD j false with
        | true => rfl
        | false => exact absurd ⟨j, hj, hx⟩ hno
      have hready : Region.ready .any l.toArray listed ≠ [] := by
        obtain ⟨j, hj, hjun⟩ := hex
        exact ready_ne F I.size (by omega) hjun
      refine ⟨fun h0 => absurd h0 hready, fun i hi => ?_⟩
      obtain ⟨h0, o, ho, hd⟩ := mem_ready.1 hi
      have hil : i < l.length := by
        have := (Array.getElem?_eq_some_iff.1 ho).1
        simpa using this
      have hol : l[i]? = some o := by simpa using ho
      have hisz : i < listed.size := by rw [I.size]; exact hil
      have huni : listed.getD i false = false := by simpa [hisz] using h0
      have hanc := anc_listed F I.closed i o hol hd
      have him : i < m := by
        rcases Nat.lt_or_ge i m with h1 | h1
        · exact h1
        · obtain ⟨j, hj, hjun⟩ := hex
          have := hanc j (by omega) (F.tail i o j hol h1 (by omega))
          rw [hjun] at this
          cases this
      have hK : KnownK l D R a0 f i a := by
        refine ⟨fun j s oj hb hj hs => (I.vals j oj s hj hs (hanc j (List.getElem?_eq_some_iff.1 hj).1 hb)).1, fun j s oj hb hj hs => (I.vals j oj s hj hs (hanc j (List.getElem?_eq_some_iff.1 hj).1 hb)).2,
          fun j oj hb hj => I.fsome j (hanc j (List.getElem?_eq_some_iff.1 hj).1 hb), I.fnone i huni, fun j oj hb hj => I.fnone j ?_, fun s hs => I.init s fun j oj hj hjs => ?_, fun j oj s b hj hjs hb => ?_⟩
        · cases hx : listed.getD j false with
          | false => rfl
          | true =>
            have := anc_listed F I.closed j oj hj (I.closed j oj hj hx) i hil hb
            rw [huni] at this
            cases this
        · rw [List.all_eq_true] at hs
          have hjl := (List.getElem?_eq_some_iff.1 hj).1
          have h1 := hs j (List.mem_range.2 hjl)
          rw [hj] at h1
          simp only [hjs, bne_self_eq_false, Bool.false_or, Bool.or_eq_true, beq_iff_eq] at h1
          rcases h1 with h1 | h1
          · subst h1; exact huni
          · cases hx : listed.getD j false with
            | false => rfl
            | true =>
              have := anc_listed F I.closed j oj hj (I.closed j oj hj hx) i hil h1
              rw [huni] at this
              cases this
        · have hlt : s < a.tmps.size := by rw [I.tsize]; exact F.room j oj s hj hjs
          have hb' : a.tmps[s]? = some (.bool b) := by
            have : a.eval (.tmp s) = a.tmps[s] := by simp [Act.eval, hlt]
            rw [this] at hb
            rw [Array.getElem?_eq_getElem hlt, hb]
          simp [yielded, hj, hjs, hb']
      have hs := hstep i o him hol f a w I.mem hK
      have hnext : ∀ v w', K (upd f i v) w' ∧ R i v → wpAny P .any l.toArray Q fuel (listed.setIfInBounds i true) (a.put o.dst v) w' := by
        rintro v w' ⟨hb, hR⟩
        refine ih _ _ _ _ (un.erase i) ?_ (fun j hj hju => ?_) (I.step F hol huni hd hb hR) (fun j hj => ?_)
        · rw [List.length_erase_of_mem (hmem i hil huni)]
          omega
        · have hji : j ≠ i := by
            rintro rfl
            simp [hisz] at hju
          rw [getD_set_ne false (Ne.symm hji)] at hju
          exact (List.mem_erase_of_ne hji).2 (hmem j hj hju)
        · have hji : j ≠ i := by omega
          rw [getD_set_ne false (Ne.symm hji)]
          exact htail j hj
      unfold wpOp
      rw [ho]
      simp only []
      split
      · rename_i hw
        rw [if_pos hw] at hs
        exact .inl (wp_of_gives hs hnext)
      · rename_i hw
        rw [if_neg hw] at hs
        exact hnext _ _ hs
end
theorem yield_undef {l : List Oper} {a : Act} {j : Nat} {o : Oper} {s : Tmp} (hl : l[j]? = some o) (hs : o.dst = some s) (h : a.eval (.tmp s) = undef) : yielded l.toArray a.tmps j = none := by
  unfold yielded
  have hl' : l.toArray[j]? = some o := by simpa using hl
  cases hx : a.tmps[s]? with
  | none => simp [hl, hs, hx]
  | some v =>
    have : v = undef := by simpa [Act.eval, hx] using h
    subst this
    simp [hl, hs, hx, undef]
theorem Known.wantU {l : List Oper} {D : List Nat} {n : Nat} {R : Nat → Value → World → Prop} {a0 : Act} {w0 : World} {i : Nat} {a : Act} {w : World} (_ : Known l D n R a0 w0 i a w) (j : Nat) (o : Oper) (s : Tmp) (hl : l[j]? = some o) (hs : o.dst = some s) (h : a.eval (.tmp s) = undef) :
    yielded l.toArray a.tmps j = none := yield_undef hl hs h
theorem KnownK.wantU {l : List Oper} {D : List Nat} {R : Nat → KP} {a0 : Act} {f : Nat → Option Value} {i : Nat} {a : Act} (_ : KnownK l D R a0 f i a) (j : Nat) (o : Oper) (s : Tmp) (hl : l[j]? = some o) (hs : o.dst = some s) (h : a.eval (.tmp s) = undef) :
    yielded l.toArray a.tmps j = none := yield_undef hl hs h
/-- Of an operation whose guard was itself not wanted. -/
theorem flow_skipU {P : Program} {o : Oper} {a : Act} {w : World} {S : Value → World → Prop} {N : Prop} {y : Nat → Option Bool} {j : Nat} {b : Bool} (hg : o.guard = some (j, b)) (hy : y j = none) (h : N) : if Region.wanted o y = true then gives P o a w S else N := by
  rw [if_neg (by simp [Region.wanted, hg, hy])]; exact h
theorem gives_mono {P : Program} {o : Oper} {a : Act} {w : World} {S T : Value → World → Prop} (h : gives P o a w S) (hm : ∀ v w', S v w' → T v w') : gives P o a w T := by
  unfold gives at *
  generalize (execOp a.eval o).run P w = r at *
  cases r with
  | ok n w' =>
    cases n with
    | value v => exact hm _ _ h
    | skip => exact hm _ _ h
    | enter f args =>
      exact Calls.mono h (fun e w'' he => by
        obtain ⟨v, e1, hs⟩ := he
        exact ⟨v, e1, hm _ _ hs⟩)
    | _ => exact h.elim
  | halt x w' => exact h.elim
/-- Of an operation that leaves memory as it is. -/
theorem gives_keep {P : Program} {o : Oper} {a : Act} {w : World} {K : World → Prop} {R : Value → Prop} (hk : K w) (h : gives P o a w (fun v w' => w' = w ∧ R v)) : gives P o a w (fun v w' => K w' ∧ R v) :=
  gives_mono h fun v w' hh => ⟨hh.1 ▸ hk, hh.2⟩
theorem gives_load_agg {P : Program} {o : Oper} {a : Act} {w : World} {S : Value → World → Prop} {ty : TypeId} {x : Operand} (ho : o.op = .load ty x) {g off : Nat} (hx : a.eval x = .pointer (some ⟨g, off, none⟩)) {cs : List Value} (hT : AggT P ty cs.length)
    (hc : ∀ j v, cs[j]? = some v → w.cell? ⟨g, off + j, none⟩ = some v) (h : S (.agg cs.toArray) w) : gives P o a w S := by
  unfold gives execOp
  simp only [ho, hx, Instr.loadAt, Instr.sureAddr, Sem.run_bind, Sem.run_pure, Result.andThen_ok, run_load_agg hT hc]
  exact h
/-- What is asked of each operation of the head. -/
def StepK (P : Program) (l : List Oper) (D : List Nat) (F : List KP) (Qs : List Nat) (K : List (Option Value) → World → Prop) (a0 : Act) (i : Nat) (o : Oper) : Prop :=
  ∀ f a w, K (Qs.map f) w → KnownK l D (fun i => F.getD i KP.any) a0 f i a → if Region.wanted o (yielded l.toArray a.tmps) = true then gives P o a w (fun v w' => K (Qs.map (upd f i v)) w' ∧ F.getD i KP.any v) else K (Qs.map (upd f i undef)) w ∧ F.getD i KP.any undef
theorem map_upd {Qs : List Nat} {f : Nat → Option Value} {i : Nat} {v : Value} (h : Qs.contains i = false) : Qs.map (upd f i v) = Qs.map f := by
  refine List.map_congr_left fun j hj => upd_ne _ _ ?_
  rintro rfl
  simp at h
  exact h hj
/-- Of an operation that turns no memory. -/
theorem stepK_by {P : Program} {l : List Oper} {D : List Nat} {F : List KP} {Qs : List Nat} {K : List (Option Value) → World → Prop} {a0 : Act} {i : Nat} {o : Oper} (hq : Qs.contains i = false)
    (h : ∀ f a w, K (Qs.map f) w → KnownK l D (fun i => F.getD i KP.any) a0 f i a → if Region.wanted o (yielded l.toArray a.tmps) = true then gives P o a w (fun v w' => K (Qs.map f) w' ∧ F.getD i KP.any v) else K (Qs.map f) w ∧ F.getD i KP.any undef) : StepK P l D F Qs K a0 i o := by
  intro f a w hk hn
  have := h f a w hk hn
  simp only [map_upd hq]
  exact this
/-- **The rule**, an obligation an operation. -/
theorem wp_flowK {P : Program} {id : Nat} {l : List Oper} {l0 : List Value} {d0 : List Deferred} {w0 : World} {Q : Exit → Act → World → Prop} (hmix : P.follows .mixedOrders = true) (D : List Nat) (m : Nat) (W : List Bool)
    (hok : flowOk l D l0.length m = true) (hm : m ≤ l.length) (hW : wOk l m W = true) (F : List KP) (Qs : List Nat) (K : List (Option Value) → World → Prop)
    (hK0 : K (Qs.map fun _ => none) w0.drew)
    (hstep : AllFrom (fun i o => StepK P l D F Qs K { tmps := l0.toArray, defers := d0 } i o) 0 m l)
    (hend : ∀ (g : Nat → Value) (f : Nat → Option Value) w, K (Qs.map f) w → (∀ (j : Nat) (s : Tmp) (o : Oper), j < m → l[j]? = some o → o.dst = some s → F.getD j KP.any (g s) ∧ f j = some (g s)) → (∀ (j : Nat), j < m → ∃ v, f j = some v) →
      wpList P l.toArray Q (l.drop m) { tmps := (mix W l0 g 0).toArray, defers := d0 } w) :
    (Code.region id l.toArray true).wp P Q { tmps := l0.toArray, defers := d0 } w0 := by
  refine wp_region_any hmix ?_
  have FL := flow_of hok
  have FL' : Flow l D ({ tmps := l0.toArray, defers := d0 } : Act).tmps.size m := by simpa using FL
  refine wpAny_flowK FL' hm (fun i => F.getD i KP.any) (fun f w => K (Qs.map f) w) (fun i o hi ho => ?_) (fun f a w h1 h2 h3 h4 h5 h6 => ?_) _ (fun _ => none) _ _ _ (List.range l.length) (by simp) (fun j hj _ => List.mem_range.2 hj) ⟨by simp, ?_, rfl, rfl, ?_, ?_, fun _ _ => rfl, fun s _ => rfl, hK0⟩ ?_
  · have := allFrom_get m l 0 hstep i o hi ho
    rw [Nat.zero_add] at this
    exact this
  · have := hend (fun s => a.eval (.tmp s)) f w h1 h4 h5
    have e : a = { tmps := (mix W l0 (fun s => a.eval (.tmp s)) 0).toArray, defers := d0 } := by
      refine act_ext h2 (by rw [length_mix]; simpa using h3) fun i v hv => ?_
      have hi : i < l0.length := by
        have := (List.getElem?_eq_some_iff.1 hv).1
        rwa [length_mix] at this
      rw [get_mix _ _ _ _ _ hi] at hv
      split at hv
      · injection hv with hv
        rw [← hv, Nat.zero_add]
      · rename_i hw
        rw [h6 i fun j o hj ho hs => ?_]
        · simp [Act.eval, hv]
        · unfold wOk at hW
          rw [List.all_eq_true] at hW
          have hmem : o ∈ l.take m := by
            refine List.mem_of_getElem? (i := j) ?_
            rw [List.getElem?_take, if_pos hj, ho]
          have := hW o hmem
          rw [hs] at this
          exact hw this
    rw [← e] at this
    exact this
  · intro i o _ h
    simp [Array.getElem?_replicate] at h
    split at h <;> simp_all
  · intro j o s _ _ h
    simp [Array.getElem?_replicate] at h
    split at h <;> simp_all
  · intro j h
    simp [Array.getElem?_replicate] at h
    split at h <;> simp_all
  · intro j _
    simp [Array.getElem?_replicate]
    split <;> simp
end Go.Proofs.Ytnbjoebdbbhbkaa
