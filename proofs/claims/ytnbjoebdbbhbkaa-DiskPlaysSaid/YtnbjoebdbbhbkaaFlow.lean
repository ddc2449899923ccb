
/- A region that leaves its order open, walked operation by operation: each operation's value is told by a law of its own, out of the values of those operations that it waits for; worlds only gain new blocks; at the end a tail in a forced order. -/
import Derived.Test.YtnbjoebdbbhbkaaBase
import Derived.Orders
import Derived.NoCompiler
namespace Go.Proofs.Ytnbjoebdbbhbkaa
open Go.RowKit
section
variable {P : Program}

/-- The operation comes to a value of which S holds, in the world behind it. -/
def givesOn (P : Program) (S : Value → World → Prop) : Result Next → Prop
  | .ok (.value v) w' => S v w'
  | .ok .skip w' => S undef w'
  | .ok (.enter f args) w' => Calls P f args w' fun e w'' => ∃ v, e = .returned v ∧ S v w''
  | _ => False
def gives (P : Program) (o : Oper) (a : Act) (w : World) (S : Value → World → Prop) : Prop := givesOn P S ((execOp a.eval o).run P w)

theorem wp_of_gives {o : Oper} {a : Act} {w : World} {S : Value → World → Prop} {K : Act → World → Prop} {Q : Exit → Act → World → Prop} (h : gives P o a w S) (hk : ∀ v w', S v w' → K (a.put o.dst v) w') : o.wp P a w K Q := by
  unfold gives at h
  unfold Oper.wp
  generalize (execOp a.eval o).run P w = r at *
  cases r with
  | ok n w' =>
    cases n with
    | value v => exact hk _ _ h
    | skip => exact hk _ _ h
    | enter f args =>
      exact Calls.mono h (fun e w'' he => by
        obtain ⟨v, rfl, hs⟩ := he
        exact hk _ _ hs)
    | _ => exact h.elim
  | halt x w' => cases x <;> exact h.elim

def flowOk (l : List Oper) (D : List Nat) (n m : Nat) : Bool :=
  (List.range l.length).all fun i =>
    match l[i]? with
    | none => true
    | some o =>
      (o.after.all fun e => !Region.binds .any e || decide (e.on < i)) &&
      ((List.range l.length).all fun j => !(D.getD i 0).testBit j || o.after.any fun e => Region.binds .any e && (e.on == j || (D.getD e.on 0).testBit j)) &&
      (match o.dst with | none => true | some s => decide (s < n) && (List.range l.length).all fun j => j == i || (match l[j]? with | some o' => o'.dst != some s | none => true)) &&
      (decide (i < m) || (List.range i).all fun j => (D.getD i 0).testBit j)

structure Flow (l : List Oper) (D : List Nat) (n m : Nat) : Prop where
  back : ∀ (i : Nat) (o : Oper), l[i]? = some o → ∀ e ∈ o.after, Region.binds .any e = true → e.on < i
  anc : ∀ (i : Nat) (o : Oper) (j : Nat), l[i]? = some o → j < l.length → (D.getD i 0).testBit j = true → ∃ e ∈ o.after, Region.binds .any e = true ∧ (e.on = j ∨ (D.getD e.on 0).testBit j = true)
  room : ∀ (i : Nat) (o : Oper) (s : Tmp), l[i]? = some o → o.dst = some s → s < n
  once : ∀ (i j : Nat) (o o' : Oper) (s : Tmp), l[i]? = some o → l[j]? = some o' → o.dst = some s → o'.dst = some s → j = i
  tail : ∀ (i : Nat) (o : Oper) (j : Nat), l[i]? = some o → m ≤ i → j < i → (D.getD i 0).testBit j = true

theorem flow_of {l : List Oper} {D : List Nat} {n m : Nat} (h : flowOk l D n m = true) : Flow l D n m := by
  unfold flowOk at h
  rw [List.all_eq_true] at h
  have key : ∀ (i : Nat) (o : Oper), l[i]? = some o → i < l.length := fun i o ho => (List.getElem?_eq_some_iff.1 ho).1
  have hh : ∀ (i : Nat) (o : Oper), l[i]? = some o → (((o.after.all fun e => !Region.binds .any e || decide (e.on < i)) = true ∧
      ((List.range l.length).all fun j => !(D.getD i 0).testBit j || o.after.any fun e => Region.binds .any e && (e.on == j || (D.getD e.on 0).testBit j)) = true) ∧
      (match o.dst with | none => true | some s => decide (s < n) && (List.range l.length).all fun j => j == i || (match l[j]? with | some o' => o'.dst != some s | none => true)) = true) ∧
      (decide (i < m) || (List.range i).all fun j => (D.getD i 0).testBit j) = true := fun i o ho => by
    have := h i (List.mem_range.2 (key i o ho))
    rw [ho] at this
    simpa only [Bool.and_eq_true] using this
  refine ⟨fun i o ho e he hb => ?_, fun i o j ho hj hb => ?_, fun i o s ho hs => ?_, fun i j o o' s ho ho' hs hs' => ?_, fun i o j ho hm hj => ?_⟩
  · have h1 := (hh i o ho).1.1.1
    rw [Array.all_eq_true_iff_forall_mem] at h1
    have := h1 e he
    simpa [hb] using this
  · have h1 := (hh i o ho).1.1.2
    rw [List.all_eq_true] at h1
    have h2 := h1 j (List.mem_range.2 hj)
    rw [hb] at h2
    simp only [Bool.not_true, Bool.false_or] at h2
    rw [← Array.any_toList, List.any_eq_true] at h2
    obtain ⟨e, he, h3⟩ := h2
    rw [Array.mem_toList_iff] at he
    simp only [Bool.and_eq_true, Bool.or_eq_true, beq_iff_eq] at h3
    exact ⟨e, he, h3.1, h3.2⟩
  · have h1 := (hh i o ho).1.2
    rw [hs] at h1
    simp only [Bool.and_eq_true, decide_eq_true_eq] at h1
    exact h1.1
  · have h1 := (hh i o ho).1.2
    rw [hs] at h1
    simp only [Bool.and_eq_true, List.all_eq_true] at h1
    have h2 := h1.2 j (List.mem_range.2 (key j o' ho'))
    rw [ho'] at h2
    simpa [hs'] using h2
  · have h1 := (hh i o ho).2
    simp only [Bool.or_eq_true, decide_eq_true_eq, List.all_eq_true] at h1
    rcases h1 with h1 | h1
    · omega
    · exact h1 j (List.mem_range.2 hj)

/-- What an operation may lean on when its turn comes. -/
structure Known (l : List Oper) (D : List Nat) (n : Nat) (R : Nat → Value → World → Prop) (a0 : Act) (w0 : World) (i : Nat) (a : Act) (w : World) : Prop where
  ext : Below w0.heap.size w0 w
  got : ∀ (j : Nat) (s : Tmp) (o : Oper), (D.getD i 0).testBit j = true → l[j]? = some o → o.dst = some s → R j (a.eval (.tmp s)) w
  old : ∀ (s : Tmp), ((List.range l.length).all fun j => match l[j]? with | some o => o.dst != some s || j == i || (D.getD j 0).testBit i | none => true) = true → a.eval (.tmp s) = a0.eval (.tmp s)
  want : ∀ (j : Nat) (o : Oper) (s : Tmp) (b : Bool), l[j]? = some o → o.dst = some s → a.eval (.tmp s) = .bool b → yielded l.toArray a.tmps j = some b

/-- What holds while the operations of the head are under way. -/
structure FInv (l : List Oper) (R : Nat → Value → World → Prop) (a0 : Act) (w0 : World) (listed : Array Bool) (a : Act) (w : World) : Prop where
  size : listed.size = l.length
  closed : ∀ (i : Nat) (o : Oper), l[i]? = some o → listed.getD i false = true → ∀ e ∈ o.after, Region.binds .any e = true → listed.getD e.on false = true
  ext : Below w0.heap.size w0 w
  defers : a.defers = a0.defers
  tsize : a.tmps.size = a0.tmps.size
  vals : ∀ (j : Nat) (o : Oper) (s : Tmp), l[j]? = some o → o.dst = some s → listed.getD j false = true → R j (a.eval (.tmp s)) w
  init : ∀ (s : Tmp), (∀ (j : Nat) (o : Oper), l[j]? = some o → o.dst = some s → listed.getD j false = false) → a.eval (.tmp s) = a0.eval (.tmp s)

theorem anc_listed {l : List Oper} {D : List Nat} {n m : Nat} (F : Flow l D n m) {listed : Array Bool}
    (closed : ∀ (i : Nat) (o : Oper), l[i]? = some o → listed.getD i false = true → ∀ e ∈ o.after, Region.binds .any e = true → listed.getD e.on false = true) :
    ∀ (i : Nat) (o : Oper), l[i]? = some o → (∀ e ∈ o.after, Region.binds .any e = true → listed.getD e.on false = true) → ∀ j, j < l.length → (D.getD i 0).testBit j = true → listed.getD j false = true := by
  intro i
  induction i using Nat.strongRecOn with
  | ind i ih =>
    intro o ho hd j hj hb
    obtain ⟨e, he, hbe, h⟩ := F.anc i o j ho hj hb
    have hl := hd e he hbe
    rcases h with h | h
    · rw [← h]; exact hl
    · have hlt := F.back i o ho e he hbe
      have hi := (List.getElem?_eq_some_iff.1 ho).1
      have ho' : l[e.on]? = some l[e.on] := List.getElem?_eq_getElem (by omega)
      exact ih e.on hlt _ ho' (closed e.on _ ho' hl) j hj h

theorem eval_put_same {a : Act} {s : Nat} {v : Value} (h : s < a.tmps.size) : (a.put (some s) v).eval (.tmp s) = v := by
  simp [Act.put, Act.eval, h]
theorem eval_put_ne {a : Act} {s t : Nat} {v : Value} (h : s ≠ t) : (a.put (some s) v).eval (.tmp t) = a.eval (.tmp t) := by
  simp [Act.put, Act.eval, Array.getElem?_setIfInBounds_ne h]
theorem eval_put_other {a : Act} {dst : Option Tmp} {t : Nat} {v : Value} (h : dst ≠ some t) : (a.put dst v).eval (.tmp t) = a.eval (.tmp t) := by
  cases dst with
  | none => rfl
  | some s => exact eval_put_ne (fun e => h (by rw [e]))
theorem put_defers' (a : Act) (dst : Option Tmp) (v : Value) : (a.put dst v).defers = a.defers := by cases dst <;> rfl
theorem put_size (a : Act) (dst : Option Tmp) (v : Value) : (a.put dst v).tmps.size = a.tmps.size := by cases dst <;> simp [Act.put]

theorem FInv.step {l : List Oper} {D : List Nat} {m : Nat} {R : Nat → Value → World → Prop} {a0 a : Act} {w0 w w' : World} {listed : Array Bool} (F : Flow l D a0.tmps.size m)
    (mono : ∀ i v w w', Below w.heap.size w w' → R i v w → R i v w') (I : FInv l R a0 w0 listed a w) {i : Nat} {o : Oper} (ho : l[i]? = some o) (hun : listed.getD i false = false)
    (hd : ∀ e ∈ o.after, Region.binds .any e = true → listed.getD e.on false = true) {v : Value} (hb : Below w.heap.size w w') (hR : R i v w') : FInv l R a0 w0 (listed.setIfInBounds i true) (a.put o.dst v) w' := by
  have hi := (List.getElem?_eq_some_iff.1 ho).1
  have hsame : (listed.setIfInBounds i true).getD i false = true := by
    have : i < listed.size := by rw [I.size]; exact hi
    simp [this]
  have hoth : ∀ j, j ≠ i → (listed.setIfInBounds i true).getD j false = listed.getD j false := fun j hj => getD_set_ne false (Ne.symm hj)
  refine ⟨by simpa using I.size, fun j oj hj hl e he hbe => ?_, bx_trans I.ext hb, (put_defers' a _ v).trans I.defers, (put_size a _ v).trans I.tsize, fun j oj s hj hs hl => ?_, fun s hs => ?_⟩
  · by_cases hji : j = i
    · subst hji
      rw [ho] at hj
      injection hj with hj
      subst hj
      exact getD_set_true (hd e he hbe)
    · rw [hoth j hji] at hl
      exact getD_set_true (I.closed j oj hj hl e he hbe)
  · by_cases hji : j = i
    · subst hji
      rw [ho] at hj
      injection hj with hj
      subst hj
      rw [hs, eval_put_same (by rw [I.tsize]; exact F.room _ _ _ ho hs)]
      exact hR
    · rw [hoth j hji] at hl
      rw [eval_put_other (fun h => hji (F.once i j o oj s ho hj h hs))]
      exact mono _ _ _ _ hb (I.vals j oj s hj hs hl)
  · have hne : o.dst ≠ some s := fun h => by
      have := hs i o ho h
      rw [hsame] at this
      cases this
    rw [eval_put_other hne]
    refine I.init s fun j oj hj hjs => ?_
    have h1 := hs j oj hj hjs
    by_cases hji : j = i
    · subst hji; exact hun
    · rwa [hoth j hji] at h1

theorem wpAny_seq {l : List Oper} {D : List Nat} {n m : Nat} (F : Flow l D n m) {Q : Exit → Act → World → Prop} : ∀ (fuel k : Nat) (listed : Array Bool) (a : Act) (w : World), m ≤ k → k ≤ l.length → l.length ≤ k + fuel → listed.size = l.length →
    (∀ j, j < l.length → (listed.getD j false = true ↔ j < k)) → wpList P l.toArray Q (l.drop k) a w → wpAny P .any l.toArray Q fuel listed a w := by
  have hreadyAll : ∀ (listed : Array Bool), listed.size = l.length → (∀ j, j < l.length → listed.getD j false = true) → Region.ready .any l.toArray listed = [] := by
    intro listed hsz h
    rw [List.eq_nil_iff_forall_not_mem]
    intro j hj
    obtain ⟨h0, o, ho, _⟩ := mem_ready.1 hj
    have hlt : j < l.length := by
      have := (Array.getElem?_eq_some_iff.1 ho).1
      simpa using this
    have h1 := h j hlt
    have : j < listed.size := by omega
    simp [this] at h0 h1
    rw [h0] at h1; cases h1
  intro fuel
  induction fuel with
  | zero =>
    intro k listed a w hm hk hf hsz hl h
    have : k = l.length := by omega
    subst this
    rw [List.drop_length] at h
    exact ⟨hreadyAll listed hsz fun j hj => (hl j hj).2 hj, h⟩
  | succ fuel ih =>
    intro k listed a w hm hk hf hsz hl h
    by_cases hkl : k = l.length
    · subst hkl
      rw [List.drop_length] at h
      have hr := hreadyAll listed hsz fun j hj => (hl j hj).2 hj
      exact ⟨fun _ => h, by rw [hr]; simp⟩
    · have hlt : k < l.length := by omega
      have hok : l[k]? = some l[k] := List.getElem?_eq_getElem hlt
      have hunk : listed.getD k false = false := by
        cases hx : listed.getD k false with
        | false => rfl
        | true => have := (hl k hlt).1 hx; omega
      have hkr : k ∈ Region.ready .any l.toArray listed := by
        refine mem_ready.2 ⟨?_, l[k], by simp, fun e he hb => ?_⟩
        · have : k < listed.size := by omega
          simpa [this] using hunk
        · have := F.back k _ hok e he hb
          exact (hl e.on (by omega)).2 this
      refine ⟨fun h0 => (by rw [h0] at hkr; cases hkr), fun i hi => ?_⟩
      obtain ⟨h0, o, ho, hd⟩ := mem_ready.1 hi
      have hil : i < l.length := by
        have := (Array.getElem?_eq_some_iff.1 ho).1
        simpa using this
      have hol : l[i]? = some o := by simpa using ho
      have huni : listed.getD i false = false := by
        have : i < listed.size := by omega
        simpa [this] using h0
      have hki : k ≤ i := by
        rcases Nat.lt_or_ge i k with h1 | h1
        · have := (hl i hil).2 h1; rw [huni] at this; cases this
        · exact h1
      have hcl : ∀ (i : Nat) (o : Oper), l[i]? = some o → listed.getD i false = true → ∀ e ∈ o.after, Region.binds .any e = true → listed.getD e.on false = true := by
        intro i o ho hli e he hb
        have hi := (List.getElem?_eq_some_iff.1 ho).1
        have h1 := (hl i hi).1 hli
        have h2 := F.back i o ho e he hb
        exact (hl e.on (by omega)).2 (by omega)
      have hik : i = k := by
        rcases Nat.lt_or_ge k i with h1 | h1
        · have := anc_listed F hcl i o hol hd k hlt (F.tail i o k hol (by omega) h1)
          rw [hunk] at this; cases this
        · omega
      subst hik
      rw [List.drop_eq_getElem_cons hlt] at h
      have hoe : l[i] = o := by rw [hok] at hol; injection hol
      rw [hoe] at h
      unfold wpOp
      rw [ho]
      simp only []
      have hnext : ∀ a w, wpList P l.toArray Q (l.drop (i + 1)) a w → wpAny P .any l.toArray Q fuel (listed.setIfInBounds i true) a w := fun a w hw => by
        refine ih (i + 1) _ a w (by omega) (by omega) (by omega) (by simpa using hsz) (fun j hj => ?_) hw
        by_cases hji : j = i
        · subst hji
          have : j < listed.size := by omega
          simp [this]
        · rw [getD_set_ne false (Ne.symm hji), hl j hj]
          omega
      unfold wpList at h
      split
      · rename_i hw
        rw [if_pos hw] at h
        exact h.imp (Oper.wp_mono hnext) id
      · rename_i hw
        rw [if_neg hw] at h
        exact hnext _ _ h

theorem wpAny_flow {l : List Oper} {D : List Nat} {m : Nat} {a0 : Act} {w0 : World} {Q : Exit → Act → World → Prop} (F : Flow l D a0.tmps.size m) (hm : m ≤ l.length) (R : Nat → Value → World → Prop)
    (mono : ∀ i v w w', Below w.heap.size w w' → R i v w → R i v w')
    (hstep : ∀ (i : Nat) (o : Oper), i < m → l[i]? = some o → ∀ a w, Known l D a0.tmps.size R a0 w0 i a w → if Region.wanted o (yielded l.toArray a.tmps) = true then gives P o a w (fun v w' => Below w.heap.size w w' ∧ R i v w') else R i undef w)
    (hend : ∀ a w, Below w0.heap.size w0 w → a.defers = a0.defers → a.tmps.size = a0.tmps.size → (∀ (j : Nat) (s : Tmp) (o : Oper), j < m → l[j]? = some o → o.dst = some s → R j (a.eval (.tmp s)) w) →
      (∀ (s : Tmp), (∀ (j : Nat) (o : Oper), j < m → l[j]? = some o → o.dst ≠ some s) → a.eval (.tmp s) = a0.eval (.tmp s)) → wpList P l.toArray Q (l.drop m) a w) :
    ∀ (fuel : Nat) (listed : Array Bool) (a : Act) (w : World) (un : List Nat), un.length ≤ fuel → (∀ j, j < l.length → listed.getD j false = false → j ∈ un) → FInv l R a0 w0 listed a w → (∀ j, m ≤ j → listed.getD j false = false) →
      wpAny P .any l.toArray Q fuel listed a w := by
  intro fuel
  induction fuel with
  | zero =>
    intro listed a w un hun hmem I htail
    have hnil : un = [] := List.eq_nil_of_length_eq_zero (by omega)
    subst hnil
    have hml : m = l.length := by
      rcases Nat.lt_or_ge m l.length with h | h
      · exact absurd (hmem m h (htail m (Nat.le_refl _))) (by simp)
      · omega
    refine wpAny_seq F 0 m listed a w (Nat.le_refl _) hm (by omega) I.size (fun j hj => ?_) (hend a w I.ext I.defers I.tsize (fun j s o hj ho hs => I.vals j o s ho hs ?_) fun s hs => I.init s fun j o ho hjs => ?_)
    · constructor
      · intro _; omega
      · intro _
        cases hx : listed.getD j false with
        | true => rfl
        | false => exact absurd (hmem j hj hx) (by simp)
    · cases hx : listed.getD j false with
      | true => rfl
      | false => exact absurd (hmem j (by omega) hx) (by simp)
    · have hj := (List.getElem?_eq_some_iff.1 ho).1
      exact absurd hjs (hs j o (by omega) ho)
  | succ fuel ih =>
    intro listed a w un hun hmem I htail
    by_cases hall : ∀ j, j < m → listed.getD j false = true
    · refine wpAny_seq F (fuel + 1) m listed a w (Nat.le_refl _) hm ?_ I.size (fun j hj => ?_) (hend a w I.ext I.defers I.tsize (fun j s o hj ho hs => I.vals j o s ho hs (hall j hj)) fun s hs => I.init s fun j o ho hjs => ?_)
      · -- the tail's places are all among the unlisted
        have : l.length - m ≤ un.length := by
          have hsub : ∀ j ∈ (List.range (l.length - m)).map (· + m), j ∈ un := by
            intro j hj
            obtain ⟨i, hi, rfl⟩ := List.mem_map.1 hj
            have hi' := List.mem_range.1 hi
            exact hmem _ (by omega) (htail _ (by omega))
          have hnd : ((List.range (l.length - m)).map (· + m)).Nodup := by
            rw [List.nodup_iff_pairwise_ne, List.pairwise_map]
            exact (List.nodup_range (n := l.length - m)).imp (fun h => by omega)
          have := hnd.length_le_of_subset hsub
          simpa using this
        omega
      · constructor
        · intro h
          rcases Nat.lt_or_ge j m with h1 | h1
          · exact h1
          · have := htail j h1; rw [h] at this; cases this
        · exact hall j
      · rcases Nat.lt_or_ge j m with h1 | h1
        · exact absurd hjs (hs j o h1 ho)
        · exact htail j h1
    · have hex : ∃ j, j < m ∧ listed.getD j false = false := by
        apply Classical.byContradiction
        intro hno
        apply hall
        intro j hj
        cases hx : listed.getD j false with
        | true => rfl
        | false => exact absurd ⟨j, hj, hx⟩ hno
      have hready : Region.ready .any l.toArray listed ≠ [] := by
        -- the least unlisted one
        obtain ⟨j, hj, hjun⟩ := hex
        have : ∀ k, k < l.length → listed.getD k false = false → ∃ i, i ∈ Region.ready .any l.toArray listed := by
          intro k
          induction k using Nat.strongRecOn with
          | ind k ihk =>
            intro hk hku
            have hok : l[k]? = some l[k] := List.getElem?_eq_getElem hk
            by_cases hd : ∀ e ∈ l[k].after, Region.binds .any e = true → listed.getD e.on false = true
            · refine ⟨k, mem_ready.2 ⟨?_, l[k], by simp, hd⟩⟩
              have : k < listed.size := by rw [I.size]; exact hk
              simpa [this] using hku
            · have : ∃ e ∈ l[k].after, Region.binds .any e = true ∧ listed.getD e.on false = false := by
                apply Classical.byContradiction
                intro hno
                apply hd
                intro e he hb
                cases hx : listed.getD e.on false with
                | true => rfl
                | false => exact absurd ⟨e, he, hb, hx⟩ hno
              obtain ⟨e, he, hb, hx⟩ := this
              have hlt := F.back k _ hok e he hb
              exact ihk e.on hlt (by omega) hx
        obtain ⟨i, hi⟩ := this j (by omega) hjun
        intro h0
        rw [h0] at hi
        cases hi
      refine ⟨fun h0 => absurd h0 hready, fun i hi => ?_⟩
      obtain ⟨h0, o, ho, hd⟩ := mem_ready.1 hi
      have hil : i < l.length := by
        have := (Array.getElem?_eq_some_iff.1 ho).1
        simpa using this
      have hol : l[i]? = some o := by simpa using ho
      have huni : listed.getD i false = false := by
        have : i < listed.size := by rw [I.size]; exact hil
        simpa [this] using h0
      have hanc := anc_listed F I.closed i o hol hd
      have him : i < m := by
        rcases Nat.lt_or_ge i m with h1 | h1
        · exact h1
        · obtain ⟨j, hj, hjun⟩ := hex
          have := hanc j (by omega) (F.tail i o j hol h1 (by omega))
          rw [hjun] at this
          cases this
      have hK : Known l D a0.tmps.size R a0 w0 i a w := by
        refine ⟨I.ext, fun j s oj hb hj hs => I.vals j oj s hj hs (hanc j (List.getElem?_eq_some_iff.1 hj).1 hb), fun s hs => I.init s fun j oj hj hjs => ?_, fun j oj s b hj hjs hb => ?_⟩
        · rw [List.all_eq_true] at hs
          have hjl := (List.getElem?_eq_some_iff.1 hj).1
          have h1 := hs j (List.mem_range.2 hjl)
          rw [hj] at h1
          simp only [hjs, bne_self_eq_false, Bool.false_or, Bool.or_eq_true, beq_iff_eq] at h1
          rcases h1 with h1 | h1
          · subst h1; exact huni
          · cases hx : listed.getD j false with
            | false => rfl
            | true =>
              have := anc_listed F I.closed j oj hj (I.closed j oj hj hx) i hil h1
              rw [huni] at this
              cases this
        · have hlt : s < a.tmps.size := by rw [I.tsize]; exact F.room j oj s hj hjs
          have hb' : a.tmps[s]? = some (.bool b) := by
            have : a.eval (.tmp s) = a.tmps[s] := by simp [Act.eval, hlt]
            rw [this] at hb
            rw [Array.getElem?_eq_getElem hlt, hb]
          simp [yielded, hj, hjs, hb']
      have hs := hstep i o him hol a w hK
      have hnext : ∀ v w', Below w.heap.size w w' ∧ R i v w' → wpAny P .any l.toArray Q fuel (listed.setIfInBounds i true) (a.put o.dst v) w' := by
        rintro v w' ⟨hb, hR⟩
        refine ih _ _ _ (un.erase i) ?_ (fun j hj hju => ?_) (I.step F mono hol huni hd hb hR) (fun j hj => ?_)
        · rw [List.length_erase_of_mem (hmem i hil huni)]
          omega
        · have hji : j ≠ i := by
            rintro rfl
            have : j < listed.size := by rw [I.size]; exact hil
            simp [this] at hju
          rw [getD_set_ne false (Ne.symm hji)] at hju
          exact (List.mem_erase_of_ne hji).2 (hmem j hj hju)
        · have hji : j ≠ i := by omega
          rw [getD_set_ne false (Ne.symm hji)]
          exact htail j hj
      unfold wpOp
      rw [ho]
      simp only []
      split
      · rename_i hw
        rw [if_pos hw] at hs
        exact .inl (wp_of_gives hs hnext)
      · rename_i hw
        rw [if_neg hw] at hs
        exact hnext _ _ ⟨Below.refl _ _, hs⟩

/-- **The rule.** -/
theorem wp_region_flow {id : Nat} {l : List Oper} {a0 : Act} {w0 : World} {Q : Exit → Act → World → Prop} (hmix : P.follows .mixedOrders = true) (D : List Nat) (m : Nat) (hok : flowOk l D a0.tmps.size m = true) (hm : m ≤ l.length) (R : Nat → Value → World → Prop)
    (mono : ∀ i v w w', Below w.heap.size w w' → R i v w → R i v w')
    (hstep : ∀ (i : Nat) (o : Oper), i < m → l[i]? = some o → ∀ a w, Known l D a0.tmps.size R a0 w0 i a w → if Region.wanted o (yielded l.toArray a.tmps) = true then gives P o a w (fun v w' => Below w.heap.size w w' ∧ R i v w') else R i undef w)
    (hend : ∀ a w, Below w0.heap.size w0 w → a.defers = a0.defers → a.tmps.size = a0.tmps.size → (∀ (j : Nat) (s : Tmp) (o : Oper), j < m → l[j]? = some o → o.dst = some s → R j (a.eval (.tmp s)) w) →
      (∀ (s : Tmp), (∀ (j : Nat) (o : Oper), j < m → l[j]? = some o → o.dst ≠ some s) → a.eval (.tmp s) = a0.eval (.tmp s)) → wpList P l.toArray Q (l.drop m) a w) :
    (Code.region id l.toArray true).wp P Q a0 w0 := by
  refine wp_region_any hmix ?_
  have F := flow_of hok
  refine wpAny_flow (w0 := w0) F hm R mono hstep hend _ _ _ _ (List.range l.length) (by simp) (fun j hj _ => List.mem_range.2 hj) ⟨by simp, ?_, ?_, rfl, rfl, ?_, fun s _ => rfl⟩ ?_
  · intro i o _ h
    simp [Array.getElem?_replicate] at h
    split at h <;> simp_all
  · exact (Below.refl _ w0).drew
  · intro j o s _ _ h
    simp [Array.getElem?_replicate] at h
    split at h <;> simp_all
  · intro j _
    simp [Array.getElem?_replicate]
    split <;> simp
end

/-! ### What is told of a value, and stays so when blocks come -/
structure FP where
  p : Value → World → Prop
  mono : ∀ v w w', Below w.heap.size w w' → p v w → p v w'
def FP.any : FP := ⟨fun _ _ => True, fun _ _ _ _ _ => trivial⟩
def FP.eq (x : Value) : FP := ⟨fun v _ => v = x, fun _ _ _ _ h => h⟩
def FP.bytes (l : List UInt8) : FP := ⟨fun v w => RdB w w.heap.size v l, fun _ _ _ hb h => (h.below hb).more hb.size⟩
/-- The value is a slice of slices of bytes, which read as these. -/
def RdV (w : World) (B : Nat) (v : Value) (ls : List (List UInt8)) : Prop := ∃ A c, v = .slice A ls.length c ∧ RdBB w B A ls
def FP.rows (ls : List (List UInt8)) : FP := ⟨fun v w => RdV w w.heap.size v ls, fun _ _ _ hb h => by
  obtain ⟨A, c, h1, h2⟩ := h
  exact ⟨A, c, h1, (h2.below hb).more hb.size⟩⟩

theorem rdV_one {w : World} {B : Nat} {v : Value} {l : List UInt8} {t : TypeId} (h : RdB w B v l) (hB : B ≤ w.heap.size) : Below w.heap.size w (w.alloc (.cells #[v] t)) ∧ (FP.rows [l]).p (.slice (some ⟨w.heap.size, 0, none⟩) 1 1) (w.alloc (.cells #[v] t)) :=
  ⟨bx_alloc (Below.refl _ _) _, _, _, rfl, rdBB_one h hB⟩
theorem rdV_two {w : World} {B : Nat} {v v' : Value} {l l' : List UInt8} {t : TypeId} (h : RdB w B v l) (h' : RdB w B v' l') (hB : B ≤ w.heap.size) :
    Below w.heap.size w (w.alloc (.cells #[v, v'] t)) ∧ (FP.rows [l, l']).p (.slice (some ⟨w.heap.size, 0, none⟩) 2 2) (w.alloc (.cells #[v, v'] t)) :=
  ⟨bx_alloc (Below.refl _ _) _, _, _, rfl, rdBB_two h h' hB⟩
section
variable {P : Program} {o : Oper} {a : Act} {w : World} {S : Value → World → Prop} {N : Prop} {y : Nat → Option Bool}
theorem flow_plain (hg : o.guard = none) (h : gives P o a w S) : if Region.wanted o y = true then gives P o a w S else N := by
  rw [if_pos (by simp [Region.wanted, hg])]; exact h
theorem flow_want {j : Nat} {b : Bool} (hg : o.guard = some (j, b)) (hy : y j = some b) (h : gives P o a w S) : if Region.wanted o y = true then gives P o a w S else N := by
  rw [if_pos (by simp [Region.wanted, hg, hy])]; exact h
theorem flow_skip {j : Nat} {b b' : Bool} (hg : o.guard = some (j, b)) (hy : y j = some b') (hne : b' ≠ b) (h : N) : if Region.wanted o y = true then gives P o a w S else N := by
  rw [if_neg (by simp [Region.wanted, hg, hy, hne])]; exact h
theorem gives_move {x : Operand} (ho : o.op = .move x) (h : S (a.eval x) w) : gives P o a w S := by unfold gives execOp; rw [ho]; exact h
theorem gives_assign {x : Operand} (ho : o.op = .assign x) (h : S (a.eval x) w) : gives P o a w S := by unfold gives execOp; rw [ho]; exact h
theorem gives_pick {c x z : Operand} {b : Bool} (ho : o.op = .pick c x z) (hc : a.eval c = .bool b) (h : S (if b then a.eval x else a.eval z) w) : gives P o a w S := by
  unfold gives execOp; rw [ho]; simp only [hc]; cases b <;> exact h
theorem gives_val {v : Value} {w' : World} (hrun : (execOp a.eval o).run P w = .ok (.value v) w') (h : S v w') : gives P o a w S := by unfold gives; rw [hrun]; exact h
theorem gives_call {f : FuncId} {args : Array Value} {w' : World} (hrun : (execOp a.eval o).run P w = .ok (.enter f args) w') (h : Calls P f args w' fun e w'' => ∃ v, e = .returned v ∧ S v w'') : gives P o a w S := by unfold gives; rw [hrun]; exact h
end
/-- Of each operation of a list, one behind the other. -/
def AllFrom (T : Nat → Oper → Prop) : Nat → Nat → List Oper → Prop
  | _, 0, _ => True
  | _, _, [] => True
  | k, m + 1, o :: r => T k o ∧ AllFrom T (k + 1) m r
theorem allFrom_cons {T : Nat → Oper → Prop} {k m : Nat} {o : Oper} {r : List Oper} (h : T k o) (h' : AllFrom T (k + 1) m r) : AllFrom T k (m + 1) (o :: r) := ⟨h, h'⟩
theorem allFrom_nil {T : Nat → Oper → Prop} {k : Nat} {r : List Oper} : AllFrom T k 0 r := by cases r <;> trivial
theorem allFrom_get {T : Nat → Oper → Prop} : ∀ (m : Nat) (l : List Oper) (k : Nat), AllFrom T k m l → ∀ i o, i < m → l[i]? = some o → T (k + i) o
  | 0, _, _, _, _, _, hi, _ => absurd hi (by omega)
  | _ + 1, [], _, _, _, _, _, ho => by simp at ho
  | m + 1, o' :: r, k, h, i, o, hi, ho => by
    cases i with
    | zero =>
      simp at ho
      subst ho
      exact h.1
    | succ i =>
      have := allFrom_get m r (k + 1) h.2 i o (by omega) (by simpa using ho)
      rwa [show k + 1 + i = k + (i + 1) by omega] at this
/-- A frame of which each slot is told, as a frame that is written out. -/
theorem act_ext {a : Act} {vs : List Value} {ds : List Deferred} (hd : a.defers = ds) (hs : a.tmps.size = vs.length) (h : ∀ i v, vs[i]? = some v → a.eval (.tmp i) = v) : a = { tmps := vs.toArray, defers := ds } := by
  obtain ⟨tmps, defers⟩ := a
  simp only at hd hs
  subst hd
  congr
  apply Array.ext
  · simpa using hs
  · intro i h1 h2
    have h3 : i < vs.length := by simpa using h2
    have := h i vs[i] (List.getElem?_eq_getElem h3)
    simpa [Act.eval, h1] using this
/-- A frame's slots: those that are marked are told by f, the others stay. -/
def mix : List Bool → List Value → (Nat → Value) → Nat → List Value
  | _, [], _, _ => []
  | [], l, _, _ => l
  | true :: W, _ :: l, f, i => f i :: mix W l f (i + 1)
  | false :: W, x :: l, f, i => x :: mix W l f (i + 1)
theorem length_mix : ∀ (W : List Bool) (l : List Value) (f : Nat → Value) (i : Nat), (mix W l f i).length = l.length
  | _, [], _, _ => by simp [mix]
  | [], _ :: _, _, _ => by simp [mix]
  | true :: W, _ :: l, f, i => by simp [mix, length_mix W l f (i + 1)]
  | false :: W, x :: l, f, i => by simp [mix, length_mix W l f (i + 1)]
theorem get_mix : ∀ (W : List Bool) (l : List Value) (f : Nat → Value) (i k : Nat), k < l.length → (mix W l f i)[k]? = if W.getD k false = true then some (f (i + k)) else l[k]?
  | _, [], _, _, k, hk => by simp at hk
  | [], _ :: _, _, _, k, _ => by simp [mix]
  | true :: W, x :: l, f, i, k, hk => by
    cases k with
    | zero => simp [mix]
    | succ k =>
      have := get_mix W l f (i + 1) k (by simpa using hk)
      simp only [mix, List.getElem?_cons_succ, List.getD_cons_succ, this]
      rw [show i + 1 + k = i + (k + 1) by omega]
  | false :: W, x :: l, f, i, k, hk => by
    cases k with
    | zero => simp [mix]
    | succ k =>
      have := get_mix W l f (i + 1) k (by simpa using hk)
      simp only [mix, List.getElem?_cons_succ, List.getD_cons_succ, this]
      rw [show i + 1 + k = i + (k + 1) by omega]
def wOk (l : List Oper) (m : Nat) (W : List Bool) : Bool := (l.take m).all fun o => match o.dst with | some s => W.getD s false | none => true
/-- **The rule**, an obligation an operation. -/
theorem wp_flow {P : Program} {id : Nat} {l : List Oper} {l0 : List Value} {d0 : List Deferred} {w0 : World} {Q : Exit → Act → World → Prop} (hmix : P.follows .mixedOrders = true) (D : List Nat) (m : Nat) (W : List Bool)
    (hok : flowOk l D l0.length m = true) (hm : m ≤ l.length) (hW : wOk l m W = true) (F : List FP)
    (hstep : AllFrom (fun i o => ∀ a w, Known l D l0.length (fun i => (F.getD i FP.any).p) { tmps := l0.toArray, defers := d0 } w0 i a w →
      if Region.wanted o (yielded l.toArray a.tmps) = true then gives P o a w (fun v w' => Below w.heap.size w w' ∧ (F.getD i FP.any).p v w') else (F.getD i FP.any).p undef w) 0 m l)
    (hend : ∀ (f : Nat → Value) w, Below w0.heap.size w0 w → (∀ (j : Nat) (s : Tmp) (o : Oper), j < m → l[j]? = some o → o.dst = some s → (F.getD j FP.any).p (f s) w) →
      wpList P l.toArray Q (l.drop m) { tmps := (mix W l0 f 0).toArray, defers := d0 } w) :
    (Code.region id l.toArray true).wp P Q { tmps := l0.toArray, defers := d0 } w0 := by
  refine wp_region_flow hmix D m (by simpa using hok) hm (fun i => (F.getD i FP.any).p) (fun i => (F.getD i FP.any).mono) (fun i o hi ho => ?_) fun a w h1 h2 h3 h4 h5 => ?_
  · have := allFrom_get m l 0 hstep i o hi ho
    rw [Nat.zero_add] at this
    simpa using this
  · have := hend (fun s => a.eval (.tmp s)) w h1 h4
    have e : a = { tmps := (mix W l0 (fun s => a.eval (.tmp s)) 0).toArray, defers := d0 } := by
      refine act_ext h2 (by rw [length_mix]; simpa using h3) fun i v hv => ?_
      have hi : i < l0.length := by
        have := (List.getElem?_eq_some_iff.1 hv).1
        rwa [length_mix] at this
      rw [get_mix _ _ _ _ _ hi] at hv
      split at hv
      · injection hv with hv
        rw [← hv, Nat.zero_add]
      · rename_i hw
        rw [h5 i fun j o hj ho hs => ?_]
        · simp [Act.eval, hv]
        · unfold wOk at hW
          rw [List.all_eq_true] at hW
          have hmem : o ∈ l.take m := by
            refine List.mem_of_getElem? (i := j) ?_
            rw [List.getElem?_take, if_pos hj, ho]
          have := hW o hmem
          rw [hs] at this
          exact hw this
    rw [← e] at this
    exact this
end Go.Proofs.Ytnbjoebdbbhbkaa
