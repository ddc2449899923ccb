
/- Chains: what Verify's walk needs, in plain numbers; its two hashes. -/
import Derived.Test.YtgaefejblmnklaaDoorChI
namespace Go.Proofs.YtgaefejblmnklaaDoor
open Go.RowKit
set_option linter.unusedVariables false
/-- A number and the one before it have no bit in common just if it is a power of two. -/
theorem and_pred : ∀ (m : Nat), 1 ≤ m → (m &&& (m - 1) = 0 ↔ ∃ t, m = 2 ^ t) := by
  intro m
  induction m using Nat.strongRecOn with
  | ind m ih =>
    intro h1
    rcases Nat.mod_two_eq_zero_or_one m with h | h
    · obtain ⟨a, rfl⟩ : ∃ a, m = 2 * a := ⟨m / 2, by omega⟩
      have ha := ih a (by omega) (by omega)
      have hd : (2 * a &&& (2 * a - 1)) / 2 = a &&& (a - 1) := by
        rw [Nat.and_div_two, show 2 * a / 2 = a by omega, show (2 * a - 1) / 2 = a - 1 by omega]
      have hm : (2 * a &&& (2 * a - 1)) % 2 = 0 := by
        rw [← Nat.and_one_is_mod, Nat.and_assoc, Nat.and_comm (2 * a - 1) 1, ← Nat.and_assoc, Nat.and_one_is_mod, show 2 * a % 2 = 0 by omega, Nat.zero_and]
      have e : (2 * a &&& (2 * a - 1)) = 0 ↔ a &&& (a - 1) = 0 := by omega
      rw [e, ha]
      constructor
      · rintro ⟨t, rfl⟩
        exact ⟨t + 1, by rw [pow_succ2]⟩
      · rintro ⟨t, ht⟩
        cases t with
        | zero => omega
        | succ t => exact ⟨t, by rw [pow_succ2] at ht; omega⟩
    · obtain ⟨a, rfl⟩ : ∃ a, m = 2 * a + 1 := ⟨m / 2, by omega⟩
      have hd : ((2 * a + 1) &&& (2 * a + 1 - 1)) / 2 = a := by
        rw [Nat.and_div_two, show (2 * a + 1) / 2 = a by omega, show (2 * a + 1 - 1) / 2 = a by omega, Nat.and_self]
      have hm : ((2 * a + 1) &&& (2 * a + 1 - 1)) % 2 = 0 := by
        rw [← Nat.and_one_is_mod, Nat.and_assoc, Nat.and_one_is_mod, show (2 * a + 1 - 1) % 2 = 0 by omega, Nat.and_zero]
      constructor
      · intro h0
        rw [h0] at hd
        exact ⟨0, by omega⟩
      · rintro ⟨t, ht⟩
        cases t with
        | zero => have : a = 0 := by omega
                  subst this; rfl
        | succ t => rw [pow_succ2] at ht; omega
theorem and_whole {m n : Nat} (h1 : 1 ≤ m) (h2 : m < n) : (m &&& (m - 1) = 0) = (wholeN m n = true) := by
  apply propext
  rw [and_pred m h1, whole_pow h1 n h2]
theorem and_u64 {m : Nat} (h1 : 1 ≤ m) (h : m < 18446744073709551616) : bits BinOp.and IntKind.u64 (m : Int) ((m : Int) - 1) = ((m &&& (m - 1) : Nat) : Int) := by
  rw [show ((m : Int) - 1) = ((m - 1 : Nat) : Int) by omega, bits_and_u64_nat m (m - 1) h (by omega)]
theorem u64_pred {m : Nat} (h1 : 1 ≤ m) (h : m < 18446744073709551616) : IntKind.u64.wrap ((m : Int) - 1) = ((m - 1 : Nat) : Int) := by simp only [IntKind.wrap, IntKind.bits, IntKind.signed]; simp; omega
theorem and1_u64 {a : Nat} (h : a < 18446744073709551616) : bits BinOp.and IntKind.u64 (a : Int) 1 = ((a % 2 : Nat) : Int) := by
  rw [show (1 : Int) = ((1 : Nat) : Int) from rfl, bits_and_u64_nat a 1 h (by omega), Nat.and_one_is_mod]
/-- The two new blocks for the two hashes; the first one is filled last. -/
def TwoK (wb : World) (X Z : Array Value) : List (Option Value) → World → Prop
  | [k6, k7, k8], w' => Below wb.heap.size wb w' ∧ (∀ v, k6 = some v → ∃ g, v = .pointer (some ⟨g, 0, none⟩) ∧ wb.heap.size ≤ g ∧ Blk w' g 23 (if k8.isSome then X else Z)) ∧ (∀ v, k7 = some v → ∃ g, v = .pointer (some ⟨g, 0, none⟩) ∧ wb.heap.size ≤ g ∧ Blk w' g 23 Z) ∧ (∀ v u, k6 = some v → k7 = some u → v ≠ u)
  | _, _ => True
theorem TwoK.start {wb : World} {X Z : Array Value} : TwoK wb X Z [none, none, none] wb.drew := ⟨(Below.refl _ wb).drew, (fun v h => by cases h), (fun v h => by cases h), (fun v u h => by cases h)⟩
theorem TwoK.six {wb w : World} {X Z : Array Value} {k7 : Option Value} (h : TwoK wb X Z [none, k7, none] w) : TwoK wb X Z [some (.pointer (some ⟨w.heap.size, 0, none⟩)), k7, none] (w.alloc (.cells Z 23)) := by
  obtain ⟨h1, _, h3, _⟩ := h
  refine ⟨bx_alloc h1 _, fun v hv => ?_, fun v hv => ?_, fun v u hv hu => ?_⟩
  · injection hv with hv
    exact ⟨_, hv.symm, h1.size, Blk.new _ _ _⟩
  · obtain ⟨g, e1, e2, e3⟩ := h3 v hv
    exact ⟨g, e1, e2, e3.alloc _⟩
  · injection hv with hv
    obtain ⟨g, e1, e2, e3⟩ := h3 u hu
    subst hv e1
    intro he
    injection he with he
    injection he with he
    injection he with he
    have := e3.lt
    omega
theorem TwoK.seven {wb w : World} {X Z : Array Value} {k6 : Option Value} (h : TwoK wb X Z [k6, none, none] w) : TwoK wb X Z [k6, some (.pointer (some ⟨w.heap.size, 0, none⟩)), none] (w.alloc (.cells Z 23)) := by
  obtain ⟨h1, h2, _, _⟩ := h
  refine ⟨bx_alloc h1 _, fun v hv => ?_, fun v hv => ?_, fun v u hv hu => ?_⟩
  · obtain ⟨g, e1, e2, e3⟩ := h2 v hv
    exact ⟨g, e1, e2, e3.alloc _⟩
  · injection hv with hv
    exact ⟨_, hv.symm, h1.size, Blk.new _ _ _⟩
  · injection hu with hu
    obtain ⟨g, e1, e2, e3⟩ := h2 v hv
    subst hu e1
    intro he
    injection he with he
    injection he with he
    injection he with he
    have := e3.lt
    omega
theorem TwoK.at6 {wb w : World} {X Z : Array Value} {v6 : Value} {k7 : Option Value} (h : TwoK wb X Z [some v6, k7, none] w) : ∃ g, v6 = .pointer (some ⟨g, 0, none⟩) ∧ Blk w g 23 Z := by
  obtain ⟨_, h2, _, _⟩ := h
  obtain ⟨g, e1, _, e3⟩ := h2 v6 rfl
  exact ⟨g, e1, e3⟩
theorem TwoK.eight {wb w w1 : World} {X Z : Array Value} {g : Nat} {v7 u : Value} (h : TwoK wb X Z [some (.pointer (some ⟨g, 0, none⟩)), some v7, none] w) (hp : Put w w1 g 23 X) : TwoK wb X Z [some (.pointer (some ⟨g, 0, none⟩)), some v7, some u] w1 := by
  obtain ⟨h1, h2, h3, h4⟩ := h
  obtain ⟨g', e1, e2, e3⟩ := h2 _ rfl
  injection e1 with e1
  injection e1 with e1
  injection e1 with e1
  subst e1
  refine ⟨bx_put h1 hp e2, fun v hv => ?_, fun v hv => ?_, h4⟩
  · injection hv with hv
    exact ⟨_, hv.symm, e2, hp.blk⟩
  · obtain ⟨g7, f1, f2, f3⟩ := h3 v hv
    refine ⟨g7, f1, f2, hp.other f3 ?_⟩
    rintro rfl
    exact h4 _ v rfl hv f1.symm
theorem TwoK.done {wb w : World} {X Z : Array Value} {v6 v7 v8 : Value} (h : TwoK wb X Z [some v6, some v7, some v8] w) : ∃ g6 g7, v6 = .pointer (some ⟨g6, 0, none⟩) ∧ v7 = .pointer (some ⟨g7, 0, none⟩) ∧ wb.heap.size ≤ g6 ∧ wb.heap.size ≤ g7 ∧ g6 ≠ g7 ∧ Blk w g6 23 X ∧ Blk w g7 23 Z ∧ Below wb.heap.size wb w := by
  obtain ⟨h1, h2, h3, h4⟩ := h
  obtain ⟨g6, e1, e2, e3⟩ := h2 _ rfl
  obtain ⟨g7, f1, f2, f3⟩ := h3 _ rfl
  refine ⟨g6, g7, e1, f1, e2, f2, ?_, e3, f3, h1⟩
  rintro rfl
  exact h4 _ _ rfl rfl (e1.trans f1.symm)
theorem flat_get : ∀ (ls : List (List UInt8)), (∀ l ∈ ls, l.length = 32) → ∀ (i j : Nat) (hi : i < ls.length), j < 32 → ls.flatten[i * 32 + j]? = ls[i][j]?
  | [], _, i, _, hi, _ => by simp at hi
  | x :: r, h, 0, j, _, hj => by
    have hx := h x List.mem_cons_self
    rw [List.flatten_cons, Nat.zero_mul, Nat.zero_add, List.getElem?_append_left (by omega)]
    rfl
  | x :: r, h, i + 1, j, hi, hj => by
    have hx := h x List.mem_cons_self
    rw [List.flatten_cons, List.getElem?_append_right (by omega), show (i + 1) * 32 + j - x.length = i * 32 + j by omega, flat_get r (fun l hl => h l (List.mem_cons_of_mem _ hl)) i j (by simpa using hi) hj]
    rfl
/-- One of a row of hashes. -/
theorem rd_hash {w : World} {B b off : Nat} {ls : List (List UInt8)} (h : Rd w B (some ⟨b, off, none⟩) (ls.flatten.map cb)) (hz : ∀ l ∈ ls, l.length = 32) (i : Nat) (hi : i < ls.length) : b < B ∧ ∀ j v, (ls[i].map cb)[j]? = some v → w.cell? ⟨b, off + i * 32 + j, none⟩ = some v := by
  have hl := hz _ (List.getElem_mem hi)
  have key : ∀ j v, (ls[i].map cb)[j]? = some v → (ls.flatten.map cb)[i * 32 + j]? = some v := by
    intro j v hv
    have hj : j < 32 := by
      have := (List.getElem?_eq_some_iff.1 hv).1
      rw [List.length_map, hl] at this
      exact this
    rw [List.getElem?_map] at hv ⊢
    rw [flat_get ls hz i j hi hj]
    exact hv
  rcases h with h | ⟨b', off', he, hb, hc⟩
  · exfalso
    have h0 := key 0 (cb (ls[i][0]'(by omega))) (by rw [List.getElem?_map, List.getElem?_eq_getElem (by omega)]; rfl)
    rw [h] at h0
    simp at h0
  · injection he with he
    injection he with h1 h2
    subst h1 h2
    refine ⟨hb, fun j v hv => ?_⟩
    rw [Nat.add_assoc]
    exact hc _ v (key j v hv)
/-- The answer behind the walk. -/
theorem verL_go {m n : Nat} {old now : List UInt8} {path : List (List UInt8)} (h1 : 1 ≤ m) (h2 : m ≤ n) (hl : path.length = longN m n) : verL m n old now path = if (madeL m n old path).1 = old ∧ (madeL m n old path).2 = now then 0 else 20 := by
  unfold verL
  rw [if_neg (by omega)]
  by_cases h : madeL m n old path = (old, now)
  · rw [if_pos ⟨hl, h⟩, h, if_pos ⟨rfl, rfl⟩]
  · rw [if_neg (fun hh => h hh.2), if_neg (fun hh => h (Prod.ext hh.1 hh.2))]
theorem vfold_len {rest : List (List UInt8)} : ∀ {x y : List UInt8} {a l : Nat}, x.length = 32 → y.length = 32 → (rest.foldl vstep (x, y, a, l)).1.length = 32 ∧ (rest.foldl vstep (x, y, a, l)).2.1.length = 32 := by
  induction rest with
  | nil => intro x y a l hx hy; exact ⟨hx, hy⟩
  | cons p r ih =>
    intro x y a l hx hy
    rw [List.foldl_cons]
    have h1 : (vstep (x, y, a, l) p).1.length = 32 := by
      unfold vstep
      simp only []
      split
      · exact hx
      · exact nodeL_len _ _
    have h2 : (vstep (x, y, a, l) p).2.1.length = 32 := by
      unfold vstep
      simp only []
      split
      · exact nodeL_len _ _
      · exact nodeL_len _ _
    exact ih (x := (vstep (x, y, a, l) p).1) (y := (vstep (x, y, a, l) p).2.1) (a := (vstep (x, y, a, l) p).2.2.1) (l := (vstep (x, y, a, l) p).2.2.2) h1 h2
theorem wpList_gives {P : Program} {ops : Array Oper} {rest : List Oper} {o : Oper} {a : Act} {w : World} {Q : Exit → Act → World → Prop} {S : Value → World → Prop} (hgd : o.guard = none) (hg : gives P o a w S) (h : ∀ v w', S v w' → wpList P ops Q rest (a.put o.dst v) w') : wpList P ops Q (o :: rest) a w :=
  wpList_plain hgd fun K hK => wp_of_gives hg fun v w' hs => hK _ _ (h v w' hs)
theorem one_own (w : World) (base : Nat) (hb : base ≤ w.heap.size) {h : List UInt8} (hl : h.length = 32) : (w.alloc (.cells (Value.agg (h.map cb).toArray).cells 23)).ownsRow base 23 32 (.slice (some ⟨w.heap.size, 0, none⟩) 1 1) 1 (h.map cb) := by
  have hz : (Value.agg (h.map cb).toArray).cells.toList = h.map cb := rfl
  have hs : (Value.agg (h.map cb).toArray).cells.size = 32 := cells_cb hl
  refine ⟨by rw [List.length_map, hl], .inr ⟨w.heap.size, 1, _, rfl, hb, heap_new rfl, Nat.le_refl _, by unfold maxLen; omega, by rw [hs], ?_⟩⟩
  rw [hz]
  exact List.take_of_length_le (by rw [List.length_map, hl]; decide)
theorem own_out {w : World} {base e size n : Nat} {v : Value} {xs : List Value} (h : w.ownsRow base e size v n xs) (hn : 0 < n) : ∃ b off q cq, v = .slice (some ⟨b, off, none⟩) q cq ∧ q ≤ n ∧ n ≤ q ∧ q ≤ cq ∧ Rd w w.heap.size (some ⟨b, off, none⟩) xs := by
  obtain ⟨g, cap, rfl, _, _, hc, _⟩ := own_block h hn
  exact ⟨g, 0, n, cap, rfl, Nat.le_refl _, Nat.le_refl _, hc, own_rd h⟩
/-- What a round keeps in which both places go up. -/
def ERel (a l : Nat) (v10 v11 : Value) : Prop := ∃ a1 l1 : Nat, v10 = .int .u64 (a1 : Int) ∧ v11 = .int .u64 (l1 : Int) ∧ 0 < a1 ∧ a1 ≤ a ∧ l1 ≤ l ∧ evs a1 l1 = evs a l
/-- What a round of Verify's walk keeps. -/
def VRel (rest : List (List UInt8)) (x0 : List UInt8) (a0 l0 r g12 g13 : Nat) (wb : World) (v10 v11 v87 : Value) (wr : World) : Prop :=
  ∃ (j : Nat) (xs ys : List UInt8) (a l : Nat), j ≤ r ∧ (xs, ys, a, l) = (rest.take j).foldl vstep (x0, x0, a0, l0) ∧ v10 = .int .u64 (a : Int) ∧ v11 = .int .u64 (l : Int) ∧ v87 = .int .i64 (j : Int) ∧ Blk wr g12 23 (xs.map cb).toArray ∧ Blk wr g13 23 (ys.map cb).toArray ∧ Below wb.heap.size wb wr ∧ a < 18446744073709551616 ∧ l < 18446744073709551616
end Go.Proofs.YtgaefejblmnklaaDoor
