
/- ClashRight: its walk. -/
import Derived.Test.YtgaefejblmnklaaDoorClST
import Derived.OpenShut
import Derived.Test.YtgaefejblmnklaaDoorFlowK
namespace Go.Proofs.YtgaefejblmnklaaDoor
open Go.RowKit
set_option linter.unusedVariables false
/-- Two rows of bytes, of one narrow hash if they are shown. -/
def ClashAt (wide : Int) (is : Bool) (v : Value) (w : World) : Prop :=
  ∃ (va vb : Value) (ra rb : List UInt8), v = .agg #[va, vb] ∧ OwnB w 0 va ra ∧ OwnB w 0 vb rb ∧ ra.length ≤ 1000 ∧ rb.length ≤ 1000 ∧ (is = true → (!(ra == rb) && (narL wide ra == narL wide rb)) = true)
theorem ClashAt.below {wide : Int} {is : Bool} {v : Value} {w w' : World} (h : ClashAt wide is v w) (hb : Below w.heap.size w w') : ClashAt wide is v w' := by
  obtain ⟨va, vb, ra, rb, h1, h2, h3, h4, h5, h6⟩ := h
  exact ⟨va, vb, ra, rb, h1, h2.below hb, h3.below hb, h4, h5, h6⟩
theorem ClashAt.put {wide : Int} {is : Bool} {v : Value} {w w' : World} (h : ClashAt wide is v w) {g t : Nat} {c0 c1 : Array Value} (hb : Blk w g t c0) (hp : Put w w' g t c1) (ht : t ≠ tU8) : ClashAt wide is v w' := by
  obtain ⟨va, vb, ra, rb, h1, h2, h3, h4, h5, h6⟩ := h
  exact ⟨va, vb, ra, rb, h1, own_put h2 hb hp ht, own_put h3 hb hp ht, h4, h5, h6⟩
theorem ClashAt.one {wide : Int} {is : Bool} {cs : Array Value} {w : World} (h : ClashAt wide is (.agg cs) w) : cs.size = 2 ∧ ∀ v ∈ cs.toList, v.oneCell' = true := by
  obtain ⟨va, vb, ra, rb, h1, h2, h3, _⟩ := h
  injection h1 with h1
  subst h1
  obtain ⟨A1, c1, rfl, _⟩ := own_form h2
  obtain ⟨A2, c2, rfl, _⟩ := own_form h3
  refine ⟨rfl, fun v hv => ?_⟩
  simp at hv
  rcases hv with rfl | rfl <;> rfl
def FP.clash (wide : Int) (is : Bool) : FP := ⟨fun v w => ClashAt wide is v w, fun _ _ _ hb h => h.below hb⟩
def FP.shown (wide : Int) (is : Bool) : FP := ⟨fun v w => ∃ c, v = .tuple #[c, .bool is] ∧ ClashAt wide is c w, fun _ _ _ hb h => by
  obtain ⟨c, h1, h2⟩ := h
  exact ⟨c, h1, h2.below hb⟩⟩
theorem gives_ext {P : Program} {o : Oper} {a : Act} {w : World} {S : Value → World → Prop} {x : Operand} {i : Nat} (ho : o.op = .extract x i) {us : Array Value} (hx : a.eval x = .tuple us) {u : Value} (hu : us[i]? = some u) (h : S u w) : gives P o a w S := by
  unfold gives execOp
  rw [ho]
  simp only [hx]
  simp only [Instr.extract, hu, Sem.run_bind, Sem.run_pure, Result.andThen_ok]
  exact h
open Classical in
/-- Is anything shown? -/
noncomputable def isShown (go : Prop) (l m : List (List UInt8)) : Bool := decide (go ∧ l ≠ m)
open Classical in
theorem isShown_yes {go : Prop} {l m : List (List UInt8)} (h : go ∧ l ≠ m) : isShown go l m = true := decide_eq_true h
open Classical in
theorem isShown_no {go : Prop} {l m : List (List UInt8)} (h : ¬ (go ∧ l ≠ m)) : isShown go l m = false := decide_eq_false h
theorem shows_at {wide : Int} {F : Nat → Bool} {w w' : World} {go : Prop} {l m : List (List UInt8)} {h : List UInt8} {e : Ending} (hs : Shows w go l m e w') (hl : go → Linked wide F l h) (hm : go → Linked wide F m h) (hlm : go → l.length = m.length) (h0 : go → ∀ k, k < l.length → (l.getD k []).length ≤ 1000) (h1 : go → ∀ k, k < m.length → (m.getD k []).length ≤ 1000) :
    Below w.heap.size w w' ∧ ∃ v, e = .returned v ∧ (FP.shown wide (isShown go l m)).p v w' := by
  obtain ⟨hb, hs⟩ := hs
  refine ⟨hb, ?_⟩
  rcases hs with ⟨hn, rfl⟩ | ⟨hgo, k, va, vb, hk, hd, hab, oa, ob, rfl⟩
  · have hf : isShown go l m = false := isShown_no (by
      rintro ⟨h2, h3⟩
      exact hn.elim (fun h => h h2) h3)
    rw [hf]
    exact ⟨_, rfl, _, rfl, nilC, nilC, [], [], rfl, nil_ownC _ _ _ _, nil_ownC _ _ _ _, by decide, by decide, fun h => by cases h⟩
  · have ht : isShown go l m = true := isShown_yes ⟨hgo, fun h => hd (by rw [h])⟩
    rw [ht]
    have hr := linked_right (hl hgo) (hm hgo) (hlm hgo) hk hab
    refine ⟨_, rfl, _, rfl, va, vb, _, _, rfl, oa.more (Nat.zero_le _), ob.more (Nat.zero_le _), h0 hgo k hk, h1 hgo k (by rw [← hlm hgo]; exact hk), fun _ => ?_⟩
    rw [hr, show (l.getD k [] == m.getD k []) = false by simpa using hd]
    simp
/-- What Paths tells, with the rows' bounds. -/
theorem paths_at {wide : Int} {size i : Nat} {a b : List UInt8} {P Q : List (List UInt8)} (ha : a.length ≤ 60) (hb : b.length ≤ 60) (hP : ∀ x ∈ P, x.length = 32) (hQ : ∀ x ∈ Q, x.length = 32) {w w' : World} {e : Ending}
    (hs : Shows w (a ≠ b ∧ rowsE size i P.length = 0 ∧ rowsE size i Q.length = 0 ∧ rowsH wide size i a P = rowsH wide size i b Q) (rowsR wide size i a P) (rowsR wide size i b Q) e w') :
    Below w.heap.size w w' ∧ ∃ v, e = .returned v ∧ (FP.shown wide (isShown (a ≠ b ∧ rowsE size i P.length = 0 ∧ rowsE size i Q.length = 0 ∧ rowsH wide size i a P = rowsH wide size i b Q) (rowsR wide size i a P) (rowsR wide size i b Q))).p v w' :=
  shows_at (F := sideF (flg size i)) (h := rowsH wide size i a P) hs (fun g => rowsR_linked g.2.1 hP) (fun g => by rw [g.2.2.2]; exact rowsR_linked g.2.2.1 hQ) (fun g => by rw [rowsR_len g.2.1, rowsR_len g.2.2.1])
    (fun g k hk => by
      have := linked_len (rowsR_linked (en := a) (wide := wide) g.2.1 hP) (b := 61) (by rw [rowsR_zero g.2.1, List.length_cons]; omega) hk
      omega)
    (fun g k hk => by
      have := linked_len (rowsR_linked (en := b) (wide := wide) g.2.2.1 hQ) (b := 61) (by rw [rowsR_zero g.2.2.1, List.length_cons]; omega) hk
      omega)
theorem chTo_row {wide : Int} {fs : List Bool} {x : List UInt8} {path : List (List UInt8)} (h : fs.length = path.length) (hx : x.length = 32) (h32 : ∀ x ∈ path, x.length = 32) : ∀ j, j ≤ path.length → ∀ k, k < j → ((chTo wide fs x path j).1.getD k []).length ≤ 1000 := by
  intro j
  induction j with
  | zero => intro _ k hk; omega
  | succ j ih =>
    intro hj k hk
    have hl := chTo_len (wide := wide) (x := x) h j (by omega)
    rw [chTo_succ h (by omega)]
    show (((chTo wide fs x path j).1 ++ [rowOf _ (chTo wide fs x path j).2.2 path[j]]).getD k []).length ≤ 1000
    by_cases hkj : k < j
    · rw [getD_app1 (by omega)]
      exact ih (by omega) k hkj
    · rw [getD_app2 (by omega), rowOf_len (chTo_hash h hx j (by omega)).2 (h32 _ (List.getElem_mem (by omega)))]
      decide
theorem chainedL_row {wide : Int} {m n : Nat} {old : List UInt8} {path : List (List UInt8)} (h : chainedE m n path.length = 0) (ho : old.length = 32) (h32 : ∀ x ∈ path, x.length = 32) : ∀ k, k < (chainedL wide m n old path).1.length → ((chainedL wide m n old path).1.getD k []).length ≤ 1000 := by
  obtain ⟨e1, e2, e3⟩ := chainedE_ok h
  have hc := crest_len e1 e2 e3
  intro k hk
  rw [chainedL_len h, hc] at hk
  rw [chainedL_ok h, ← chTo_all hc]
  exact chTo_row hc (cfst_len e1 e2 e3 ho h32) (crest_32 h32) _ (Nat.le_refl _) k hk
theorem chains_at {wide : Int} {m n : Nat} {a b : List UInt8} {P Q : List (List UInt8)} (ha : a.length = 32) (hb : b.length = 32) (hP : ∀ x ∈ P, x.length = 32) (hQ : ∀ x ∈ Q, x.length = 32) {w w' : World} {e : Ending}
    (hs : Shows w (a ≠ b ∧ chainedE m n P.length = 0 ∧ chainedE m n Q.length = 0 ∧ (chainedL wide m n a P).2.1 = a ∧ (chainedL wide m n b Q).2.1 = b ∧ (chainedL wide m n a P).2.2 = (chainedL wide m n b Q).2.2) (chainedL wide m n a P).1 (chainedL wide m n b Q).1 e w') :
    Below w.heap.size w w' ∧ ∃ v, e = .returned v ∧ (FP.shown wide (isShown (a ≠ b ∧ chainedE m n P.length = 0 ∧ chainedE m n Q.length = 0 ∧ (chainedL wide m n a P).2.1 = a ∧ (chainedL wide m n b Q).2.1 = b ∧ (chainedL wide m n a P).2.2 = (chainedL wide m n b Q).2.2) (chainedL wide m n a P).1 (chainedL wide m n b Q).1)).p v w' := by
  have one : (a ≠ b ∧ chainedE m n P.length = 0 ∧ chainedE m n Q.length = 0 ∧ (chainedL wide m n a P).2.1 = a ∧ (chainedL wide m n b Q).2.1 = b ∧ (chainedL wide m n a P).2.2 = (chainedL wide m n b Q).2.2) → 1 ≤ (steps m n).length := by
    rintro ⟨g1, g2, g3, g4, g5, g6⟩
    rcases Nat.lt_or_ge (steps m n).length 1 with h | h
    · exfalso
      have e1 := chainedL_none (wide := wide) (old := a) g2 (by omega)
      have e2 := chainedL_none (wide := wide) (old := b) g3 (by omega)
      apply g1
      rw [← g4, ← g5, e1, e2, g6]
    · exact h
  exact shows_at (F := fun k => sideF (steps m n) (k + 1)) (h := (chainedL wide m n a P).2.2) hs (fun g => chainedL_linked g.2.1 hP (by rw [chainedL_len g.2.1]; exact one g)) (fun g => by rw [g.2.2.2.2.2]; exact chainedL_linked g.2.2.1 hQ (by rw [chainedL_len g.2.2.1]; exact one g)) (fun g => by rw [chainedL_len g.2.1, chainedL_len g.2.2.1])
    (fun g => chainedL_row g.2.1 ha hP) (fun g => chainedL_row g.2.2.1 hb hQ)
/-- Behind the call of Chains: its tuple, and a new block that holds what is shown. -/
def KCl (wb : World) (n : Int) (is : Bool) : List (Option Value) → World → Prop
  | [k14, k15, k16, k18, k19], w => Below wb.heap.size wb w ∧ (∀ v, k14 = some v → ∃ c, v = .tuple #[c, .bool is] ∧ ClashAt n is c w) ∧ (∀ v, k15 = some v → ∃ c, v = .tuple #[c, .bool is] ∧ ClashAt n is c w) ∧ (∀ v, k16 = some v → ∃ cs, v = .agg cs ∧ ClashAt n is v w) ∧
      (∀ v, k18 = some v → ∃ g cs, v = .pointer (some ⟨g, 0, none⟩) ∧ wb.heap.size ≤ g ∧ Blk w g tCl cs ∧ cs.size = 2 ∧ (∀ u, k19 = some u → ClashAt n is (.agg cs) w))
  | _, _ => False
theorem KCl.start {wb : World} {n : Int} {is : Bool} : KCl wb n is [none, none, none, none, none] wb.drew := ⟨(Below.refl _ wb).drew, (fun v h => by cases h), (fun v h => by cases h), (fun v h => by cases h), (fun v h => by cases h)⟩
theorem KCl.below {wb w w' : World} {n : Int} {is : Bool} {k14 k15 k16 k18 k19 : Option Value} (h : KCl wb n is [k14, k15, k16, k18, k19] w) (hb : Below w.heap.size w w') : KCl wb n is [k14, k15, k16, k18, k19] w' := by
  obtain ⟨h1, h2, h3, h4, h5⟩ := h
  refine ⟨h1.trans (hb.mono h1.size), fun v e => ?_, fun v e => ?_, fun v e => ?_, fun v e => ?_⟩
  · obtain ⟨c, e1, e2⟩ := h2 v e; exact ⟨c, e1, e2.below hb⟩
  · obtain ⟨c, e1, e2⟩ := h3 v e; exact ⟨c, e1, e2.below hb⟩
  · obtain ⟨c, e1, e2⟩ := h4 v e; exact ⟨c, e1, e2.below hb⟩
  · obtain ⟨g, cs, e1, e2, e3, e4, e5⟩ := h5 v e
    exact ⟨g, cs, e1, e2, e3.below hb e3.lt, e4, fun u hu => (e5 u hu).below hb⟩
theorem KCl.call {wb w : World} {n : Int} {is : Bool} {k18 : Option Value} {c : Value} (h : KCl wb n is [none, none, none, k18, none] w) (hc : ClashAt n is c w) : KCl wb n is [some (.tuple #[c, .bool is]), none, none, k18, none] w := by
  obtain ⟨h1, h2, h3, h4, h5⟩ := h
  refine ⟨h1, fun v e => ?_, fun v e => (by cases e), fun v e => (by cases e), h5⟩
  cases e
  exact ⟨c, rfl, hc⟩
theorem KCl.move {wb w : World} {n : Int} {is : Bool} {k18 : Option Value} {v14 : Value} (h : KCl wb n is [some v14, none, none, k18, none] w) : KCl wb n is [some v14, some v14, none, k18, none] w := by
  obtain ⟨h1, h2, h3, h4, h5⟩ := h
  refine ⟨h1, h2, fun v e => ?_, h4, h5⟩
  cases e
  exact h2 _ rfl
theorem KCl.at15 {wb w : World} {n : Int} {is : Bool} {k14 k16 k18 k19 : Option Value} {v15 : Value} (h : KCl wb n is [k14, some v15, k16, k18, k19] w) : ∃ c, v15 = .tuple #[c, .bool is] ∧ ClashAt n is c w := h.2.2.1 _ rfl
theorem KCl.ext {wb w : World} {n : Int} {is : Bool} {k14 k15 k18 : Option Value} {c : Value} (h : KCl wb n is [k14, k15, none, k18, none] w) (hc : ClashAt n is c w) : KCl wb n is [k14, k15, some c, k18, none] w := by
  obtain ⟨h1, h2, h3, h4, h5⟩ := h
  refine ⟨h1, h2, h3, fun v e => ?_, h5⟩
  cases e
  obtain ⟨va, vb, ra, rb, e1, e2⟩ := hc
  exact ⟨#[va, vb], e1, va, vb, ra, rb, e1, e2⟩
theorem KCl.new {wb w : World} {n : Int} {is : Bool} {k14 k15 k16 : Option Value} (h : KCl wb n is [k14, k15, k16, none, none] w) : KCl wb n is [k14, k15, k16, some (.pointer (some ⟨w.heap.size, 0, none⟩)), none] (w.alloc (.cells (Value.agg #[nilC, nilC]).cells tCl)) := by
  have h' := h.below (bx_alloc (Below.refl _ w) (.cells (Value.agg #[nilC, nilC]).cells tCl))
  obtain ⟨h1, h2, h3, h4, _⟩ := h'
  refine ⟨h1, h2, h3, h4, fun v e => ?_⟩
  cases e
  exact ⟨w.heap.size, _, rfl, h.1.size, Blk.new _ _ _, rfl, (fun u hu => by cases hu)⟩
theorem KCl.at18 {wb w : World} {n : Int} {is : Bool} {k14 k15 k16 k19 : Option Value} {v18 : Value} (h : KCl wb n is [k14, k15, k16, some v18, k19] w) : ∃ g cs, v18 = .pointer (some ⟨g, 0, none⟩) ∧ wb.heap.size ≤ g ∧ Blk w g tCl cs ∧ cs.size = 2 := by
  obtain ⟨g, cs, e1, e2, e3, e4, _⟩ := h.2.2.2.2 _ rfl
  exact ⟨g, cs, e1, e2, e3, e4⟩
theorem KCl.at16 {wb w : World} {n : Int} {is : Bool} {k14 k15 k18 k19 : Option Value} {v16 : Value} (h : KCl wb n is [k14, k15, some v16, k18, k19] w) : ∃ cs, v16 = .agg cs ∧ ClashAt n is (.agg cs) w := by
  obtain ⟨cs, e, h2⟩ := h.2.2.2.1 _ rfl
  subst e
  exact ⟨cs, rfl, h2⟩
theorem KCl.store {wb w w1 : World} {n : Int} {is : Bool} {k14 k15 k16 : Option Value} {g : Nat} {cs c0 : Array Value} {u : Value} (h : KCl wb n is [k14, k15, k16, some (.pointer (some ⟨g, 0, none⟩)), none] w) (hc : ClashAt n is (.agg cs) w) (hg : wb.heap.size ≤ g) (hb : Blk w g tCl c0) (hp : Put w w1 g tCl cs) :
    KCl wb n is [k14, k15, k16, some (.pointer (some ⟨g, 0, none⟩)), some u] w1 := by
  obtain ⟨h1, h2, h3, h4, h5⟩ := h
  have ht : (tCl : Nat) ≠ tU8 := by decide
  refine ⟨bx_put h1 hp hg, fun v e => ?_, fun v e => ?_, fun v e => ?_, fun v e => ?_⟩
  · obtain ⟨c, e1, e2⟩ := h2 v e; exact ⟨c, e1, e2.put hb hp ht⟩
  · obtain ⟨c, e1, e2⟩ := h3 v e; exact ⟨c, e1, e2.put hb hp ht⟩
  · obtain ⟨c, e1, e2⟩ := h4 v e; exact ⟨c, e1, e2.put hb hp ht⟩
  · cases e
    exact ⟨g, cs, rfl, hg, hp.blk, hc.one.1, fun _ _ => hc.put hb hp ht⟩
theorem KCl.done {wb w : World} {n : Int} {is : Bool} {k14 k15 k16 : Option Value} {v18 u : Value} (h : KCl wb n is [k14, k15, k16, some v18, some u] w) : Below wb.heap.size wb w ∧ ∃ g cs, v18 = .pointer (some ⟨g, 0, none⟩) ∧ Blk w g tCl cs ∧ cs.size = 2 ∧ ClashAt n is (.agg cs) w := by
  obtain ⟨g, cs, e1, e2, e3, e4, e5⟩ := h.2.2.2.2 _ rfl
  exact ⟨h.1, g, cs, e1, e3, e4, e5 u rfl⟩
def KP.shown (is : Bool) : KP := fun v => ∃ c, v = .tuple #[c, .bool is]
end Go.Proofs.YtgaefejblmnklaaDoor
