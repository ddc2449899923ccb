
/- ClashFinds: its words. -/
import Derived.Test.YtgaefejblmnklaaDoorClV
import Derived.Laws.Closers25b
namespace Go.Proofs.YtgaefejblmnklaaDoor
open Go.RowKit
set_option linter.unusedVariables false
theorem convBS {w : World} {B : Nat} {A : Option Addr} {l : List UInt8} (c : Nat) (hr : Rd w B A (l.map cb)) : (convert 29 9 (.slice A l.length c)).run Tryd.prog w = .ok (.string ⟨l.toArray⟩) w :=
  conv_str Tryd.underlying29 Tryd.underlying5 Tryd.underlying9 c hr
theorem str_add (a : List UInt8) : (ByteArray.mk #[0]) ++ (ByteArray.mk a.toArray) = ByteArray.mk (0 :: a).toArray := by
  apply ByteArray.ext
  rw [ByteArray.data_append]
  simp
theorem wp_hold {P : Program} {c : Code} {Q : Exit → Act → World → Prop} {a : Act} {w : World} (h : c.wp P Q a w) : (Hold c).wp P Q a w := h
/-- A cell of an own row is turned. -/
theorem own_setCell {w : World} {base e size n g cap i : Nat} {xs : List Value} (u : Value) (h : w.ownsRow base e size (.slice (some ⟨g, 0, none⟩) n cap) n xs) (hi : i < n * size) :
    (w.setCell ⟨g, i, none⟩ u).ownsRow base e size (.slice (some ⟨g, 0, none⟩) n cap) n (xs.set i u) ∧ (∃ cs, Put w (w.setCell ⟨g, i, none⟩ u) g e cs) ∧ base ≤ g ∧ w.frozen? ⟨g, i, none⟩ = false ∧ w.cell? ⟨g, i, none⟩ = xs[i]? := by
  rcases h.2 with ⟨hv, _⟩ | ⟨g', cap', cur, hv, hb, hh, hn, hm, hs, ht⟩
  · cases hv
  · injection hv with h1 _ h3
    injection h1 with h1
    injection h1 with h1
    subst h1 h3
    have hbk : Blk w g e cur := hh
    have hp := setCell_put hbk (i := i) u
    have hx : (xs.set i u).length = n * size := by rw [List.length_set]; exact h.1
    refine ⟨⟨hx, .inr ⟨g, cap, _, rfl, hb, hp.blk, hn, hm, by rw [Array.size_setIfInBounds]; exact hs, ?_⟩⟩, ⟨_, hp⟩, hb, hbk.frozen i, ?_⟩
    · rw [Array.toList_setIfInBounds, List.take_set, ht]
    · rw [hbk.cell, ← ht, List.getElem?_take, if_pos hi]
      simp
theorem flat_set : ∀ (O : List (List UInt8)), (∀ x ∈ O, x.length = 32) → ∀ (q j : Nat) (hq : q < O.length), j < 32 → ∀ y : UInt8, O.flatten.set (q * 32 + j) y = (O.set q (O[q].set j y)).flatten
  | [], _, q, j, hq, _, _ => by simp at hq
  | x :: O, h, 0, j, _, hj, y => by
    have hx := h x List.mem_cons_self
    rw [List.flatten_cons, List.getElem_cons_zero, List.set_cons_zero, List.flatten_cons, Nat.zero_mul, Nat.zero_add, List.set_append_left _ _ (by omega)]
  | x :: O, h, q + 1, j, hq, hj, y => by
    have hx := h x List.mem_cons_self
    have ih := flat_set O (fun z hz => h z (List.mem_cons_of_mem _ hz)) q j (by simpa using hq) hj y
    rw [List.flatten_cons, List.getElem_cons_succ, List.set_cons_succ, List.flatten_cons, List.set_append_right _ _ (by omega), hx, ← ih]
    congr 2
    omega
theorem set_32 {O : List (List UInt8)} (h : ∀ x ∈ O, x.length = 32) {q : Nat} (hq : q < O.length) {z : List UInt8} (hz : z.length = 32) : ∀ x ∈ O.set q z, x.length = 32 := by
  intro x hx
  rcases List.mem_or_eq_of_mem_set hx with h2 | h2
  · exact h x h2
  · rw [h2]; exact hz
theorem xor_cb (c : UInt8) : ∃ y : UInt8, Value.int .u8 (bits BinOp.xor IntKind.u8 (c.toNat : Int) 1) = cb y := by
  have h1 := bits_lo_u8 BinOp.xor (c.toNat : Int) 1
  have h2 := bits_hi_u8 BinOp.xor (c.toNat : Int) 1
  refine ⟨UInt8.ofNat (bits BinOp.xor IntKind.u8 (c.toNat : Int) 1).toNat, ?_⟩
  unfold cb
  rw [UInt8.toNat_ofNat']
  congr 1
  omega
/-- A pair of rows with these bytes. -/
def ClashOf (ra rb : List UInt8) (v : Value) (w : World) : Prop := ∃ va vb, v = .agg #[va, vb] ∧ OwnB w 0 va ra ∧ OwnB w 0 vb rb
theorem ClashOf.below {ra rb : List UInt8} {v : Value} {w w' : World} (h : ClashOf ra rb v w) (hb : Below w.heap.size w w') : ClashOf ra rb v w' := by
  obtain ⟨va, vb, h1, h2, h3⟩ := h
  exact ⟨va, vb, h1, h2.below hb, h3.below hb⟩
theorem ClashOf.put {ra rb : List UInt8} {v : Value} {w w' : World} (h : ClashOf ra rb v w) {g t : Nat} {c0 c1 : Array Value} (hb : Blk w g t c0) (hp : Put w w' g t c1) (ht : t ≠ tU8) : ClashOf ra rb v w' := by
  obtain ⟨va, vb, h1, h2, h3⟩ := h
  exact ⟨va, vb, h1, own_put h2 hb hp ht, own_put h3 hb hp ht⟩
theorem ClashOf.one {ra rb : List UInt8} {cs : Array Value} {w : World} (h : ClashOf ra rb (.agg cs) w) : cs.size = 2 ∧ ∀ v ∈ cs.toList, v.oneCell' = true := by
  obtain ⟨va, vb, h1, h2, h3⟩ := h
  injection h1 with h1
  subst h1
  obtain ⟨A1, c1, rfl, _⟩ := own_form h2
  obtain ⟨A2, c2, rfl, _⟩ := own_form h3
  refine ⟨rfl, fun v hv => ?_⟩
  simp at hv
  rcases hv with rfl | rfl <;> rfl
/-- Behind the call of Paths: its tuple, and a new block that holds what is shown. -/
def KCo (wb : World) (ra rb : List UInt8) (is : Bool) : List (Option Value) → World → Prop
  | [k14, k15, k16, k18, k19], w => Below wb.heap.size wb w ∧ (∀ v, k14 = some v → ∃ c, v = .tuple #[c, .bool is] ∧ ClashOf ra rb c w) ∧ (∀ v, k15 = some v → ∃ c, v = .tuple #[c, .bool is] ∧ ClashOf ra rb c w) ∧ (∀ v, k16 = some v → ∃ cs, v = .agg cs ∧ ClashOf ra rb v w) ∧
      (∀ v, k18 = some v → ∃ g cs, v = .pointer (some ⟨g, 0, none⟩) ∧ wb.heap.size ≤ g ∧ Blk w g tCl cs ∧ cs.size = 2 ∧ (∀ u, k19 = some u → ClashOf ra rb (.agg cs) w))
  | _, _ => False
section
variable {wb w w1 w' : World} {ra rb : List UInt8} {is : Bool} {k14 k15 k16 k18 k19 : Option Value}
theorem KCo.start : KCo wb ra rb is [none, none, none, none, none] wb.drew := ⟨(Below.refl _ wb).drew, (fun v h => by cases h), (fun v h => by cases h), (fun v h => by cases h), (fun v h => by cases h)⟩
theorem KCo.below (h : KCo wb ra rb is [k14, k15, k16, k18, k19] w) (hb : Below w.heap.size w w') : KCo wb ra rb is [k14, k15, k16, k18, k19] w' := by
  obtain ⟨h1, h2, h3, h4, h5⟩ := h
  refine ⟨h1.trans (hb.mono h1.size), fun v e => ?_, fun v e => ?_, fun v e => ?_, fun v e => ?_⟩
  · obtain ⟨c, e1, e2⟩ := h2 v e; exact ⟨c, e1, e2.below hb⟩
  · obtain ⟨c, e1, e2⟩ := h3 v e; exact ⟨c, e1, e2.below hb⟩
  · obtain ⟨c, e1, e2⟩ := h4 v e; exact ⟨c, e1, e2.below hb⟩
  · obtain ⟨g, cs, e1, e2, e3, e4, e5⟩ := h5 v e
    exact ⟨g, cs, e1, e2, e3.below hb e3.lt, e4, fun u hu => (e5 u hu).below hb⟩
theorem KCo.call {c : Value} (h : KCo wb ra rb is [none, none, none, k18, none] w) (hc : ClashOf ra rb c w) : KCo wb ra rb is [some (.tuple #[c, .bool is]), none, none, k18, none] w := by
  obtain ⟨h1, h2, h3, h4, h5⟩ := h
  refine ⟨h1, fun v e => ?_, fun v e => (by cases e), fun v e => (by cases e), h5⟩
  cases e
  exact ⟨c, rfl, hc⟩
theorem KCo.move {v14 : Value} (h : KCo wb ra rb is [some v14, none, none, k18, none] w) : KCo wb ra rb is [some v14, some v14, none, k18, none] w := by
  obtain ⟨h1, h2, h3, h4, h5⟩ := h
  refine ⟨h1, h2, fun v e => ?_, h4, h5⟩
  cases e
  exact h2 _ rfl
theorem KCo.at15 {v15 : Value} (h : KCo wb ra rb is [k14, some v15, k16, k18, k19] w) : ∃ c, v15 = .tuple #[c, .bool is] ∧ ClashOf ra rb c w := h.2.2.1 _ rfl
theorem KCo.ext {c : Value} (h : KCo wb ra rb is [k14, k15, none, k18, none] w) (hc : ClashOf ra rb c w) : KCo wb ra rb is [k14, k15, some c, k18, none] w := by
  obtain ⟨h1, h2, h3, h4, h5⟩ := h
  refine ⟨h1, h2, h3, fun v e => ?_, h5⟩
  cases e
  obtain ⟨va, vb, e1, e2⟩ := hc
  exact ⟨#[va, vb], e1, va, vb, e1, e2⟩
theorem KCo.new (h : KCo wb ra rb is [k14, k15, k16, none, none] w) : KCo wb ra rb is [k14, k15, k16, some (.pointer (some ⟨w.heap.size, 0, none⟩)), none] (w.alloc (.cells (Value.agg #[nilC, nilC]).cells tCl)) := by
  have h' := h.below (bx_alloc (Below.refl _ w) (.cells (Value.agg #[nilC, nilC]).cells tCl))
  obtain ⟨h1, h2, h3, h4, _⟩ := h'
  refine ⟨h1, h2, h3, h4, fun v e => ?_⟩
  cases e
  exact ⟨w.heap.size, _, rfl, h.1.size, Blk.new _ _ _, rfl, (fun u hu => by cases hu)⟩
theorem KCo.at18 {v18 : Value} (h : KCo wb ra rb is [k14, k15, k16, some v18, k19] w) : ∃ g cs, v18 = .pointer (some ⟨g, 0, none⟩) ∧ wb.heap.size ≤ g ∧ Blk w g tCl cs ∧ cs.size = 2 := by
  obtain ⟨g, cs, e1, e2, e3, e4, _⟩ := h.2.2.2.2 _ rfl
  exact ⟨g, cs, e1, e2, e3, e4⟩
theorem KCo.at16 {v16 : Value} (h : KCo wb ra rb is [k14, k15, some v16, k18, k19] w) : ∃ cs, v16 = .agg cs ∧ ClashOf ra rb (.agg cs) w := by
  obtain ⟨cs, e, h2⟩ := h.2.2.2.1 _ rfl
  subst e
  exact ⟨cs, rfl, h2⟩
theorem KCo.store {g : Nat} {cs c0 : Array Value} {u : Value} (h : KCo wb ra rb is [k14, k15, k16, some (.pointer (some ⟨g, 0, none⟩)), none] w) (hc : ClashOf ra rb (.agg cs) w) (hg : wb.heap.size ≤ g) (hb : Blk w g tCl c0) (hp : Put w w1 g tCl cs) :
    KCo wb ra rb is [k14, k15, k16, some (.pointer (some ⟨g, 0, none⟩)), some u] w1 := by
  obtain ⟨h1, h2, h3, h4, h5⟩ := h
  have ht : (tCl : Nat) ≠ tU8 := by decide
  refine ⟨bx_put h1 hp hg, fun v e => ?_, fun v e => ?_, fun v e => ?_, fun v e => ?_⟩
  · obtain ⟨c, e1, e2⟩ := h2 v e; exact ⟨c, e1, e2.put hb hp ht⟩
  · obtain ⟨c, e1, e2⟩ := h3 v e; exact ⟨c, e1, e2.put hb hp ht⟩
  · obtain ⟨c, e1, e2⟩ := h4 v e; exact ⟨c, e1, e2.put hb hp ht⟩
  · cases e
    exact ⟨g, cs, rfl, hg, hp.blk, hc.one.1, fun _ _ => hc.put hb hp ht⟩
theorem KCo.done {v18 u : Value} (h : KCo wb ra rb is [k14, k15, k16, some v18, some u] w) : Below wb.heap.size wb w ∧ ∃ g cs, v18 = .pointer (some ⟨g, 0, none⟩) ∧ Blk w g tCl cs ∧ cs.size = 2 ∧ ClashOf ra rb (.agg cs) w := by
  obtain ⟨g, cs, e1, e2, e3, e4, e5⟩ := h.2.2.2.2 _ rfl
  exact ⟨h.1, g, cs, e1, e3, e4, e5 u rfl⟩
end
/-- With one path two entries of one narrow hash are shown as they are. -/
theorem paths_same {size i : Nat} {a b : List UInt8} {P : List (List UInt8)} (hE : rowsE size i P.length = 0) (hab : a ≠ b) (hn : narL 1 (0 :: a) = narL 1 (0 :: b)) {w w' : World} {e : Ending}
    (hs : Shows w (a ≠ b ∧ rowsE size i P.length = 0 ∧ rowsE size i P.length = 0 ∧ rowsH 1 size i a P = rowsH 1 size i b P) (rowsR 1 size i a P) (rowsR 1 size i b P) e w') :
    Below w.heap.size w w' ∧ ∃ c, e = .returned (.tuple #[c, .bool true]) ∧ ClashOf (0 :: a) (0 :: b) c w' := by
  obtain ⟨hb, hs⟩ := hs
  refine ⟨hb, ?_⟩
  obtain ⟨hH, R, h1, h2⟩ := rowsL_same (fs := flg size i) (path := P) hn
  have e1 : rowsR 1 size i a P = (0 :: a) :: R := by unfold rowsR; rw [if_pos hE, h1]
  have e2 : rowsR 1 size i b P = (0 :: b) :: R := by unfold rowsR; rw [if_pos hE, h2]
  have e3 : rowsH 1 size i a P = rowsH 1 size i b P := by unfold rowsH; rw [if_pos hE, if_pos hE, hH]
  rw [e1, e2] at hs
  rcases hs with ⟨h | h, _⟩ | ⟨_, k, va, vb, hk, hd, _, oa, ob, rfl⟩
  · exact absurd ⟨hab, hE, hE, e3⟩ h
  · injection h with h _
    injection h with _ h
    exact absurd h hab
  · cases k with
    | zero => exact ⟨_, rfl, va, vb, rfl, oa.more (Nat.zero_le _), ob.more (Nat.zero_le _)⟩
    | succ k => exact absurd rfl hd
/-- Of one entry nothing is shown. -/
theorem paths_self {size i : Nat} {a : List UInt8} {P : List (List UInt8)} {w w' : World} {e : Ending}
    (hs : Shows w (a ≠ a ∧ rowsE size i P.length = 0 ∧ rowsE size i P.length = 0 ∧ rowsH 1 size i a P = rowsH 1 size i a P) (rowsR 1 size i a P) (rowsR 1 size i a P) e w') :
    Below w.heap.size w w' ∧ ∃ c, e = .returned (.tuple #[c, .bool false]) ∧ ClashOf [] [] c w' := by
  obtain ⟨hb, hs⟩ := hs
  refine ⟨hb, ?_⟩
  rcases hs with ⟨_, rfl⟩ | ⟨h, _⟩
  · exact ⟨_, rfl, nilC, nilC, rfl, nil_ownC _ _ _ _, nil_ownC _ _ _ _⟩
  · exact absurd rfl h.1
end Go.Proofs.YtgaefejblmnklaaDoor
