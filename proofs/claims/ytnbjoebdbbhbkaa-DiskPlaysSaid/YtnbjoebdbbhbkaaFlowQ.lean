
/- A region that leaves its order open, in which one operation (number q, the last of the head) turns memory at will while some moves may still be under way. -/
import Derived.Test.YtnbjoebdbbhbkaaFlow
namespace Go.Proofs.Ytnbjoebdbbhbkaa
open Go.RowKit
set_option linter.unusedVariables false
section
variable {P : Program}

theorem ready_ne {l : List Oper} {D : List Nat} {n m : Nat} (F : Flow l D n m) {listed : Array Bool} (hsz : listed.size = l.length) {j : Nat} (hj : j < l.length) (hju : listed.getD j false = false) : Region.ready .any l.toArray listed ≠ [] := by
  have : ∀ k, k < l.length → listed.getD k false = false → ∃ i, i ∈ Region.ready .any l.toArray listed := by
    intro k
    induction k using Nat.strongRecOn with
    | ind k ihk =>
      intro hk hku
      have hok : l[k]? = some l[k] := List.getElem?_eq_getElem hk
      by_cases hd : ∀ e ∈ l[k].after, Region.binds .any e = true → listed.getD e.on false = true
      · refine ⟨k, mem_ready.2 ⟨?_, l[k], by simp, hd⟩⟩
        have : k < listed.size := by rw [hsz]; exact hk
        simpa [this] using hku
      · have : ∃ e ∈ l[k].after, Region.binds .any e = true ∧ listed.getD e.on false = false := by
          apply Classical.byContradiction
          intro hno
          apply hd
          intro e he hb
          cases hx : listed.getD e.on false with
          | true => rfl
          | false => exact absurd ⟨e, he, hb, hx⟩ hno
        obtain ⟨e, he, hb, hx⟩ := this
        have hlt := F.back k _ hok e he hb
        exact ihk e.on hlt (by omega) hx
  obtain ⟨i, hi⟩ := this j hj hju
  intro h0
  rw [h0] at hi
  cases hi
/-- Of a move that may come late: what its slot held ahead of the region. -/
def OldAt (l : List Oper) (a0 : Act) (i : Nat) (a : Act) : Prop :=
  ∀ (s : Tmp), ((List.range l.length).all fun j => match l[j]? with | some o => o.dst != some s | none => true) = true → a.eval (.tmp s) = a0.eval (.tmp s)
structure QInv (l : List Oper) (R : Nat → Value → World → Prop) (T : Value → World → Prop) (q : Nat) (a0 : Act) (listed : Array Bool) (a : Act) (w : World) : Prop where
  size : listed.size = l.length
  closed : ∀ (i : Nat) (o : Oper), l[i]? = some o → listed.getD i false = true → ∀ e ∈ o.after, Region.binds .any e = true → listed.getD e.on false = true
  defers : a.defers = a0.defers
  tsize : a.tmps.size = a0.tmps.size
  vals : ∀ (j : Nat) (o : Oper) (s : Tmp), l[j]? = some o → o.dst = some s → listed.getD j false = true → j ≠ q → ∃ w1, R j (a.eval (.tmp s)) w1
  told : ∀ (o : Oper) (s : Tmp), l[q]? = some o → o.dst = some s → T (a.eval (.tmp s)) w
  isq : listed.getD q false = true
  init : ∀ (s : Tmp), (∀ (j : Nat) (o : Oper), l[j]? = some o → o.dst = some s → listed.getD j false = false) → a.eval (.tmp s) = a0.eval (.tmp s)

theorem seq_count {l : List Oper} {m : Nat} {listed : Array Bool} {un : List Nat} (hmem : ∀ j, j < l.length → listed.getD j false = false → j ∈ un) (htail : ∀ j, m ≤ j → listed.getD j false = false) : l.length - m ≤ un.length := by
  have hsub : ∀ j ∈ (List.range (l.length - m)).map (· + m), j ∈ un := by
    intro j hj
    obtain ⟨i, hi, rfl⟩ := List.mem_map.1 hj
    have hi' := List.mem_range.1 hi
    exact hmem _ (by omega) (htail _ (by omega))
  have hnd : ((List.range (l.length - m)).map (· + m)).Nodup := by
    rw [List.nodup_iff_pairwise_ne, List.pairwise_map]
    exact (List.nodup_range (n := l.length - m)).imp (fun h => by omega)
  have := hnd.length_le_of_subset hsub
  simpa using this

variable {l : List Oper} {D : List Nat} {q : Nat} {a0 : Act} {w0 : World} {Q : Exit → Act → World → Prop}
theorem wpAny_flowB (F : Flow l D a0.tmps.size (q + 1)) (hm : q + 1 ≤ l.length) (R : Nat → Value → World → Prop) (T : Value → World → Prop)
    (hlate : ∀ (i : Nat) (o : Oper), i < q → l[i]? = some o → (D.getD q 0).testBit i = false → o.guard = none ∧ ∀ a w, OldAt l a0 i a → gives P o a w (fun v w' => w' = w ∧ ∀ w1, R i v w1))
    (hend : ∀ a w, a.defers = a0.defers → a.tmps.size = a0.tmps.size → (∀ (j : Nat) (s : Tmp) (o : Oper), j < q → l[j]? = some o → o.dst = some s → ∃ w1, R j (a.eval (.tmp s)) w1) →
      (∀ (s : Tmp) (o : Oper), l[q]? = some o → o.dst = some s → T (a.eval (.tmp s)) w) →
      (∀ (s : Tmp), (∀ (j : Nat) (o : Oper), j < q + 1 → l[j]? = some o → o.dst ≠ some s) → a.eval (.tmp s) = a0.eval (.tmp s)) → wpList P l.toArray Q (l.drop (q + 1)) a w) :
    ∀ (fuel : Nat) (listed : Array Bool) (a : Act) (w : World) (un : List Nat), un.length ≤ fuel → (∀ j, j < l.length → listed.getD j false = false → j ∈ un) → QInv l R T q a0 listed a w → (∀ j, q + 1 ≤ j → listed.getD j false = false) →
      wpAny P .any l.toArray Q fuel listed a w := by
  have hfin : ∀ (fuel : Nat) (listed : Array Bool) (a : Act) (w : World) (un : List Nat), un.length ≤ fuel → (∀ j, j < l.length → listed.getD j false = false → j ∈ un) → QInv l R T q a0 listed a w → (∀ j, q + 1 ≤ j → listed.getD j false = false) →
      (∀ j, j < q + 1 → listed.getD j false = true) → wpAny P .any l.toArray Q fuel listed a w := by
    intro fuel listed a w un hun hmem I htail hall
    refine wpAny_seq F fuel (q + 1) listed a w (Nat.le_refl _) hm ?_ I.size (fun j hj => ?_) (hend a w I.defers I.tsize (fun j s o hj ho hs => I.vals j o s ho hs (hall j (by omega)) (by omega)) (fun s o ho hs => I.told o s ho hs) fun s hs => I.init s fun j o ho hjs => ?_)
    · have := seq_count hmem htail
      omega
    · constructor
      · intro h
        rcases Nat.lt_or_ge j (q + 1) with h1 | h1
        · exact h1
        · have := htail j h1; rw [h] at this; cases this
      · exact hall j
    · rcases Nat.lt_or_ge j (q + 1) with h1 | h1
      · exact absurd hjs (hs j o h1 ho)
      · exact htail j h1
  intro fuel
  induction fuel with
  | zero =>
    intro listed a w un hun hmem I htail
    refine hfin 0 listed a w un hun hmem I htail fun j hj => ?_
    have hnil : un = [] := List.eq_nil_of_length_eq_zero (by omega)
    subst hnil
    cases hx : listed.getD j false with
    | true => rfl
    | false => exact absurd (hmem j (by omega) hx) (by simp)
  | succ fuel ih =>
    intro listed a w un hun hmem I htail
    by_cases hall : ∀ j, j < q + 1 → listed.getD j false = true
    · exact hfin (fuel + 1) listed a w un hun hmem I htail hall
    · have hex : ∃ j, j < q + 1 ∧ listed.getD j false = false := by
        apply Classical.byContradiction
        intro hno
        apply hall
        intro j hj
        cases hx : listed.getD j false with
        | true => rfl
        | false => exact absurd ⟨j, hj, hx⟩ hno
      have hready : Region.ready .any l.toArray listed ≠ [] := by
        obtain ⟨j, hj, hjun⟩ := hex
        exact ready_ne F I.size (by omega) hjun
      refine ⟨fun h0 => absurd h0 hready, fun i hi => ?_⟩
      obtain ⟨h0, o, ho, hd⟩ := mem_ready.1 hi
      have hil : i < l.length := by
        have := (Array.getElem?_eq_some_iff.1 ho).1
        simpa using this
      have hol : l[i]? = some o := by simpa using ho
      have hisz : i < listed.size := by rw [I.size]; exact hil
      have huni : listed.getD i false = false := by simpa [hisz] using h0
      have hanc := anc_listed F I.closed i o hol hd
      have him : i < q + 1 := by
        rcases Nat.lt_or_ge i (q + 1) with h1 | h1
        · exact h1
        · obtain ⟨j, hj, hjun⟩ := hex
          have := hanc j (by omega) (F.tail i o j hol h1 (by omega))
          rw [hjun] at this
          cases this
      have hiq : i ≠ q := fun h => by rw [h, I.isq] at huni; cases huni
      have hnb : (D.getD q 0).testBit i = false := by
        cases hx : (D.getD q 0).testBit i with
        | false => rfl
        | true =>
          have hoq : l[q]? = some l[q] := List.getElem?_eq_getElem (by omega)
          have := anc_listed F I.closed q l[q] hoq (I.closed q l[q] hoq I.isq) i hil hx
          rw [huni] at this
          cases this
      obtain ⟨hg, hgiv⟩ := hlate i o (by omega) hol hnb
      have hsame : (listed.setIfInBounds i true).getD i false = true := by simp [hisz]
      have hoth : ∀ j, j ≠ i → (listed.setIfInBounds i true).getD j false = listed.getD j false := fun j hj => getD_set_ne false (Ne.symm hj)
      have hold : OldAt l a0 i a := fun s hs => I.init s fun j oj hj hjs => by
        rw [List.all_eq_true] at hs
        have := hs j (List.mem_range.2 (List.getElem?_eq_some_iff.1 hj).1)
        rw [hj] at this
        simp [hjs] at this
      unfold wpOp
      rw [ho]
      simp only []
      rw [if_pos (by simp [Region.wanted, hg])]
      refine .inl (wp_of_gives (hgiv a w hold) ?_)
      rintro v w' ⟨rfl, hR⟩
      refine ih _ _ _ (un.erase i) ?_ (fun j hj hju => ?_) ⟨by simpa using I.size, fun j oj hj hl e he hbe => ?_, (put_defers' a _ v).trans I.defers, (put_size a _ v).trans I.tsize, fun j oj s hj hs hl hjq => ?_, fun oq s hoq hs => ?_, getD_set_true I.isq, fun s hs => ?_⟩ (fun j hj => ?_)
      · rw [List.length_erase_of_mem (hmem i hil huni)]
        omega
      · have hji : j ≠ i := by
          rintro rfl
          rw [hsame] at hju
          cases hju
        rw [hoth j hji] at hju
        exact (List.mem_erase_of_ne hji).2 (hmem j hj hju)
      · by_cases hji : j = i
        · subst hji
          rw [hol] at hj
          injection hj with hj
          subst hj
          exact getD_set_true (hd e he hbe)
        · rw [hoth j hji] at hl
          exact getD_set_true (I.closed j oj hj hl e he hbe)
      · by_cases hji : j = i
        · subst hji
          rw [hol] at hj
          injection hj with hj
          subst hj
          rw [hs, eval_put_same (by rw [I.tsize]; exact F.room _ _ _ hol hs)]
          exact ⟨w', hR w'⟩
        · rw [hoth j hji] at hl
          rw [eval_put_other (fun h => hji (F.once i j o oj s hol hj h hs))]
          exact I.vals j oj s hj hs hl hjq
      · rw [eval_put_other (fun h => hiq (F.once i q o oq s hol hoq h hs).symm)]
        exact I.told oq s hoq hs
      · have hne : o.dst ≠ some s := fun h => by
          have := hs i o hol h
          rw [hsame] at this
          cases this
        rw [eval_put_other hne]
        refine I.init s fun j oj hj hjs => ?_
        have h1 := hs j oj hj hjs
        by_cases hji : j = i
        · subst hji; exact huni
        · rwa [hoth j hji] at h1
      · have hji : j ≠ i := by omega
        rw [hoth j hji]
        exact htail j hj

theorem wpAny_flowA (F : Flow l D a0.tmps.size (q + 1)) (hm : q + 1 ≤ l.length) (R : Nat → Value → World → Prop) (T : Value → World → Prop)
    (mono : ∀ i v w w', Below w.heap.size w w' → R i v w → R i v w')
    (hlate : ∀ (i : Nat) (o : Oper), i < q → l[i]? = some o → (D.getD q 0).testBit i = false → o.guard = none ∧ ∀ a w, OldAt l a0 i a → gives P o a w (fun v w' => w' = w ∧ ∀ w1, R i v w1))
    (hstep : ∀ (i : Nat) (o : Oper), i < q → l[i]? = some o → (D.getD q 0).testBit i = true → ∀ a w, Known l D a0.tmps.size R a0 w0 i a w → if Region.wanted o (yielded l.toArray a.tmps) = true then gives P o a w (fun v w' => Below w.heap.size w w' ∧ R i v w') else R i undef w)
    (hq : ∀ (o : Oper), l[q]? = some o → o.guard = none ∧ ∀ a w, Known l D a0.tmps.size R a0 w0 q a w → gives P o a w T)
    (hend : ∀ a w, a.defers = a0.defers → a.tmps.size = a0.tmps.size → (∀ (j : Nat) (s : Tmp) (o : Oper), j < q → l[j]? = some o → o.dst = some s → ∃ w1, R j (a.eval (.tmp s)) w1) →
      (∀ (s : Tmp) (o : Oper), l[q]? = some o → o.dst = some s → T (a.eval (.tmp s)) w) →
      (∀ (s : Tmp), (∀ (j : Nat) (o : Oper), j < q + 1 → l[j]? = some o → o.dst ≠ some s) → a.eval (.tmp s) = a0.eval (.tmp s)) → wpList P l.toArray Q (l.drop (q + 1)) a w) :
    ∀ (fuel : Nat) (listed : Array Bool) (a : Act) (w : World) (un : List Nat), un.length ≤ fuel → (∀ j, j < l.length → listed.getD j false = false → j ∈ un) → FInv l R a0 w0 listed a w → listed.getD q false = false → (∀ j, q + 1 ≤ j → listed.getD j false = false) →
      wpAny P .any l.toArray Q fuel listed a w := by
  intro fuel
  induction fuel with
  | zero =>
    intro listed a w un hun hmem I hnq htail
    have hnil : un = [] := List.eq_nil_of_length_eq_zero (by omega)
    subst hnil
    exact absurd (hmem q (by omega) hnq) (by simp)
  | succ fuel ih =>
    intro listed a w un hun hmem I hnq htail
    refine ⟨fun h0 => absurd h0 (ready_ne F I.size (by omega) hnq), fun i hi => ?_⟩
    obtain ⟨h0, o, ho, hd⟩ := mem_ready.1 hi
    have hil : i < l.length := by
      have := (Array.getElem?_eq_some_iff.1 ho).1
      simpa using this
    have hol : l[i]? = some o := by simpa using ho
    have hisz : i < listed.size := by rw [I.size]; exact hil
    have huni : listed.getD i false = false := by simpa [hisz] using h0
    have hanc := anc_listed F I.closed i o hol hd
    have him : i < q + 1 := by
      rcases Nat.lt_or_ge i (q + 1) with h1 | h1
      · exact h1
      · have := hanc q (by omega) (F.tail i o q hol h1 (by omega))
        rw [hnq] at this
        cases this
    have hK : Known l D a0.tmps.size R a0 w0 i a w := by
      refine ⟨I.ext, fun j s oj hb hj hs => I.vals j oj s hj hs (hanc j (List.getElem?_eq_some_iff.1 hj).1 hb), fun s hs => I.init s fun j oj hj hjs => ?_, fun j oj s b hj hjs hb => ?_⟩
      · rw [List.all_eq_true] at hs
        have hjl := (List.getElem?_eq_some_iff.1 hj).1
        have h1 := hs j (List.mem_range.2 hjl)
        rw [hj] at h1
        simp only [hjs, bne_self_eq_false, Bool.false_or, Bool.or_eq_true, beq_iff_eq] at h1
        rcases h1 with h1 | h1
        · subst h1; exact huni
        · cases hx : listed.getD j false with
          | false => rfl
          | true =>
            have := anc_listed F I.closed j oj hj (I.closed j oj hj hx) i hil h1
            rw [huni] at this
            cases this
      · have hlt : s < a.tmps.size := by rw [I.tsize]; exact F.room j oj s hj hjs
        have hb' : a.tmps[s]? = some (.bool b) := by
          have : a.eval (.tmp s) = a.tmps[s] := by simp [Act.eval, hlt]
          rw [this] at hb
          rw [Array.getElem?_eq_getElem hlt, hb]
        simp [yielded, hj, hjs, hb']
    have hsame : (listed.setIfInBounds i true).getD i false = true := by simp [hisz]
    have hoth : ∀ j, j ≠ i → (listed.setIfInBounds i true).getD j false = listed.getD j false := fun j hj => getD_set_ne false (Ne.symm hj)
    have hlen : (un.erase i).length ≤ fuel := by
      rw [List.length_erase_of_mem (hmem i hil huni)]
      omega
    have hmem' : ∀ j, j < l.length → (listed.setIfInBounds i true).getD j false = false → j ∈ un.erase i := fun j hj hju => by
      have hji : j ≠ i := by
        rintro rfl
        rw [hsame] at hju
        cases hju
      rw [hoth j hji] at hju
      exact (List.mem_erase_of_ne hji).2 (hmem j hj hju)
    have htail' : ∀ j, q + 1 ≤ j → (listed.setIfInBounds i true).getD j false = false := fun j hj => by
      rw [hoth j (by omega)]
      exact htail j hj
    unfold wpOp
    rw [ho]
    simp only []
    by_cases hiq : i = q
    · subst hiq
      obtain ⟨hg, hgiv⟩ := hq o hol
      rw [if_pos (by simp [Region.wanted, hg])]
      refine .inl (wp_of_gives (hgiv a w hK) fun v w' hT => ?_)
      refine wpAny_flowB F hm R T hlate hend _ _ _ _ (un.erase i) hlen hmem' ⟨by simpa using I.size, fun j oj hj hl e he hbe => ?_, (put_defers' a _ v).trans I.defers, (put_size a _ v).trans I.tsize, fun j oj s hj hs hl hjq => ?_, fun oq s hoq hs => ?_, hsame, fun s hs => ?_⟩ htail'
      · by_cases hji : j = i
        · subst hji
          rw [hol] at hj
          injection hj with hj
          subst hj
          exact getD_set_true (hd e he hbe)
        · rw [hoth j hji] at hl
          exact getD_set_true (I.closed j oj hj hl e he hbe)
      · rw [hoth j hjq] at hl
        rw [eval_put_other (fun h => hjq (F.once i j o oj s hol hj h hs))]
        exact ⟨w, I.vals j oj s hj hs hl⟩
      · rw [hol] at hoq
        injection hoq with hoq
        subst hoq
        rw [hs, eval_put_same (by rw [I.tsize]; exact F.room _ _ _ hol hs)]
        exact hT
      · have hne : o.dst ≠ some s := fun h => by
          have := hs i o hol h
          rw [hsame] at this
          cases this
        rw [eval_put_other hne]
        refine I.init s fun j oj hj hjs => ?_
        have h1 := hs j oj hj hjs
        by_cases hji : j = i
        · subst hji; exact huni
        · rwa [hoth j hji] at h1
    · have hnq' : (listed.setIfInBounds i true).getD q false = false := by rw [hoth q (Ne.symm hiq)]; exact hnq
      have hnext : ∀ v w', Below w.heap.size w w' ∧ R i v w' → wpAny P .any l.toArray Q fuel (listed.setIfInBounds i true) (a.put o.dst v) w' := by
        rintro v w' ⟨hb, hR⟩
        exact ih _ _ _ (un.erase i) hlen hmem' (I.step F mono hol huni hd hb hR) hnq' htail'
      cases hx : (D.getD q 0).testBit i with
      | true =>
        have hs := hstep i o (by omega) hol hx a w hK
        split
        · rename_i hw
          rw [if_pos hw] at hs
          exact .inl (wp_of_gives hs hnext)
        · rename_i hw
          rw [if_neg hw] at hs
          exact hnext _ _ ⟨Below.refl _ _, hs⟩
      | false =>
        obtain ⟨hg, hgiv⟩ := hlate i o (by omega) hol hx
        have hold : OldAt l a0 i a := fun s hs => I.init s fun j oj hj hjs => by
          rw [List.all_eq_true] at hs
          have := hs j (List.mem_range.2 (List.getElem?_eq_some_iff.1 hj).1)
          rw [hj] at this
          simp [hjs] at this
        rw [if_pos (by simp [Region.wanted, hg])]
        refine .inl (wp_of_gives (hgiv a w hold) ?_)
        rintro v w' ⟨rfl, hR⟩
        exact hnext _ _ ⟨Below.refl _ _, hR _⟩
end

theorem q_of {l : List Oper} {q : Nat} {o0 : Oper} (hl : l[q]? = some o0) {S : Oper → Prop} (h : S o0) : ∀ o, l[q]? = some o → S o := fun o ho => by
  rw [hl] at ho
  injection ho with ho
  exact ho ▸ h
/-- What is asked of each operation ahead of number q. -/
def StepQ (P : Program) (l : List Oper) (D : List Nat) (q : Nat) (F : List FP) (a0 : Act) (w0 : World) (i : Nat) (o : Oper) : Prop :=
  if (D.getD q 0).testBit i = true then
    ∀ a w, Known l D a0.tmps.size (fun i => (F.getD i FP.any).p) a0 w0 i a w → if Region.wanted o (yielded l.toArray a.tmps) = true then gives P o a w (fun v w' => Below w.heap.size w w' ∧ (F.getD i FP.any).p v w') else (F.getD i FP.any).p undef w
  else o.guard = none ∧ ∀ a w, OldAt l a0 i a → gives P o a w (fun v w' => w' = w ∧ ∀ w1, (F.getD i FP.any).p v w1)
theorem stepQ_yes {P : Program} {l : List Oper} {D : List Nat} {q : Nat} {F : List FP} {a0 : Act} {w0 : World} {i : Nat} {o : Oper} (hb : (D.getD q 0).testBit i = true)
    (h : ∀ a w, Known l D a0.tmps.size (fun i => (F.getD i FP.any).p) a0 w0 i a w → if Region.wanted o (yielded l.toArray a.tmps) = true then gives P o a w (fun v w' => Below w.heap.size w w' ∧ (F.getD i FP.any).p v w') else (F.getD i FP.any).p undef w) : StepQ P l D q F a0 w0 i o := by
  unfold StepQ; rw [if_pos hb]; exact h
theorem stepQ_late {P : Program} {l : List Oper} {D : List Nat} {q : Nat} {F : List FP} {a0 : Act} {w0 : World} {i : Nat} {o : Oper} (hb : (D.getD q 0).testBit i = false) (hg : o.guard = none)
    (h : ∀ a w, OldAt l a0 i a → gives P o a w (fun v w' => w' = w ∧ ∀ w1, (F.getD i FP.any).p v w1)) : StepQ P l D q F a0 w0 i o := by
  unfold StepQ; rw [if_neg (by rw [hb]; decide)]; exact ⟨hg, h⟩
/-- **The rule**, an obligation an operation; behind operation q of the others just their values are known. -/
theorem wp_flowQ {P : Program} {id : Nat} {l : List Oper} {l0 : List Value} {d0 : List Deferred} {w0 : World} {Q : Exit → Act → World → Prop} (hmix : P.follows .mixedOrders = true) (D : List Nat) (q : Nat) (W : List Bool)
    (hok : flowOk l D l0.length (q + 1) = true) (hm : q + 1 ≤ l.length) (hW : wOk l (q + 1) W = true) (F : List FP) (T : Value → World → Prop)
    (hstep : AllFrom (fun i o => StepQ P l D q F { tmps := l0.toArray, defers := d0 } w0 i o) 0 q l)
    (hq : ∀ (o : Oper), l[q]? = some o → o.guard = none ∧ ∀ a w, Known l D l0.length (fun i => (F.getD i FP.any).p) { tmps := l0.toArray, defers := d0 } w0 q a w → gives P o a w T)
    (hend : ∀ (f : Nat → Value) w, (∀ (j : Nat) (s : Tmp) (o : Oper), j < q → l[j]? = some o → o.dst = some s → ∃ w1, (F.getD j FP.any).p (f s) w1) → (∀ (s : Tmp) (o : Oper), l[q]? = some o → o.dst = some s → T (f s) w) →
      wpList P l.toArray Q (l.drop (q + 1)) { tmps := (mix W l0 f 0).toArray, defers := d0 } w) :
    (Code.region id l.toArray true).wp P Q { tmps := l0.toArray, defers := d0 } w0 := by
  refine wp_region_any hmix ?_
  have FL := flow_of hok
  have FL' : Flow l D ({ tmps := l0.toArray, defers := d0 } : Act).tmps.size (q + 1) := by simpa using FL
  refine wpAny_flowA (w0 := w0) FL' hm (fun i => (F.getD i FP.any).p) T (fun i => (F.getD i FP.any).mono) (fun i o hi ho hb => ?_) (fun i o hi ho hb => ?_) (fun o ho => ?_) (fun a w h2 h3 h4 h5 h6 => ?_) _ _ _ _ (List.range l.length) (by simp) (fun j hj _ => List.mem_range.2 hj) ⟨by simp, ?_, ?_, rfl, rfl, ?_, fun s _ => rfl⟩ ?_ ?_
  · have := allFrom_get q l 0 hstep i o hi ho
    rw [Nat.zero_add] at this
    unfold StepQ at this
    rwa [if_neg (by rw [hb]; decide)] at this
  · have := allFrom_get q l 0 hstep i o hi ho
    rw [Nat.zero_add] at this
    unfold StepQ at this
    rwa [if_pos hb] at this
  · have := hq o ho
    simpa using this
  · have := hend (fun s => a.eval (.tmp s)) w h4 h5
    have e : a = { tmps := (mix W l0 (fun s => a.eval (.tmp s)) 0).toArray, defers := d0 } := by
      refine act_ext h2 (by rw [length_mix]; simpa using h3) fun i v hv => ?_
      have hi : i < l0.length := by
        have := (List.getElem?_eq_some_iff.1 hv).1
        rwa [length_mix] at this
      rw [get_mix _ _ _ _ _ hi] at hv
      split at hv
      · injection hv with hv
        rw [← hv, Nat.zero_add]
      · rename_i hw
        rw [h6 i fun j o hj ho hs => ?_]
        · simp [Act.eval, hv]
        · unfold wOk at hW
          rw [List.all_eq_true] at hW
          have hmem : o ∈ l.take (q + 1) := by
            refine List.mem_of_getElem? (i := j) ?_
            rw [List.getElem?_take, if_pos hj, ho]
          have := hW o hmem
          rw [hs] at this
          exact hw this
    rw [← e] at this
    exact this
  · intro i o _ h
    simp [Array.getElem?_replicate] at h
    split at h <;> simp_all
  · exact (Below.refl _ w0).drew
  · intro j o s _ _ h
    simp [Array.getElem?_replicate] at h
    split at h <;> simp_all
  · simp [Array.getElem?_replicate]
    split <;> simp
  · intro j _
    simp [Array.getElem?_replicate]
    split <;> simp
end Go.Proofs.Ytnbjoebdbbhbkaa
