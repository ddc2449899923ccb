
/- Records: own rows; the records of bytes, plain. -/
import Derived.Test.YtlpdiamgpnmeoaaWaA
namespace Go.Proofs.Ytlpdiamgpnmeoaa
open Go.RowKit
set_option linter.unusedVariables false
abbrev tBy : Nat := 23
abbrev tBB : Nat := 22
theorem elBy : ElT Try.prog tBB tBy 1 24 (Value.slice none 0 0).cells := elT_of (z := .slice none 0 0) Try.underlying22 (by kernel_rfl) rfl (by decide)
theorem ownOther {w w1 : World} {base e size n g t : Nat} {v : Value} {xs : List Value} {cs : Array Value} (h : w.ownsRow base e size v n xs) (hp : Put w w1 g t cs) (hne : v.ownBlock ≠ some g) : w1.ownsRow base e size v n xs :=
  h.kept (row := some g) ⟨hp.os, hp.tape, hp.output, Nat.le_of_eq hp.size.symm, fun k _ hk => hp.oth k (fun e => hk (by rw [e]))⟩ (.inr hne)
theorem own_put {w w2 : World} {base e size n : Nat} {v : Value} {xs : List Value} (h : w.ownsRow base e size v n xs) {g t : Nat} {c0 c1 : Array Value} (hb : Blk w g t c0) (hp : Put w w2 g t c1) (h3 : t ≠ e) : w2.ownsRow base e size v n xs :=
  ownOther h hp (own_ne h hb (fun cur hx => by injection hx with _ hx; exact h3 hx))
/-- An own row is as it was when another kind of row has grown. -/
theorem own_grow {w w1 : World} {base base' e e' size size' n n' : Nat} {v v' : Value} {xs xs' : List Value} (h : w.ownsRow base e size v n xs) (h' : w.ownsRow base' e' size' v' n' xs') (hg : w.grownBy w1 v'.ownBlock) (hne : e ≠ e') : w1.ownsRow base e size v n xs := by
  refine ⟨h.1, h.2.imp id ?_⟩
  rintro ⟨g, cap, cur, h1, h2, h3, h4⟩
  refine ⟨g, cap, cur, h1, h2, (hg.block g (Array.getElem?_eq_some_iff.1 h3).1 (fun e => ?_)).trans h3, h4⟩
  exact own_ne h' h3 (fun cur' hx => by injection hx with _ hx; exact hne hx) e.symm
theorem own_grownBy {w w1 : World} {base e size n g : Nat} {v : Value} {xs : List Value} (h : w.ownsRow base e size v n xs) (hg : w.grownBy w1 (some g)) (hne : v.ownBlock ≠ some g) : w1.ownsRow base e size v n xs :=
  h.kept hg (.inr hne)
/-- An own row is kept by a call that turns a disk's blocks. -/
theorem own_dfr {w w1 : World} {B base e size n : Nat} {v : Value} {xs : List Value} (h : w.ownsRow base e size v n xs) (hd : DFr B w w1) (h1 : e ≠ tDisk) (h2 : e ≠ tLoose) : w1.ownsRow base e size v n xs := by
  refine ⟨h.1, h.2.imp id ?_⟩
  rintro ⟨g, cap, cur, e1, e2, e3, e4⟩
  exact ⟨g, cap, cur, e1, e2, hd.keep g cur e (0, 0) e3 h1 h2, e4⟩
/-- Bytes in a block of their own. -/
def OwnB (w : World) (B : Nat) (v : Value) (l : List UInt8) : Prop := w.ownsRow B tU8 1 v l.length (l.map cb)
theorem OwnB.below {w w' : World} {B : Nat} {v : Value} {l : List UInt8} (h : OwnB w B v l) (hb : Below w.heap.size w w') : OwnB w' B v l := own_keepW h hb
theorem OwnB.rd {w : World} {B : Nat} {v : Value} {l : List UInt8} (h : OwnB w B v l) : RdB w w.heap.size v l := by
  obtain ⟨A, c, q1, q2, q3, q4⟩ := own_form h
  exact ⟨A, c, q1, q2, q4⟩
theorem OwnB.more {w : World} {B B' : Nat} {v : Value} {l : List UInt8} (h : OwnB w B v l) (hB : B' ≤ B) : OwnB w B' v l := own_lessW h hB
theorem OwnB.dfr {w w1 : World} {B B' : Nat} {v : Value} {l : List UInt8} (h : OwnB w B v l) (hd : DFr B' w w1) : OwnB w1 B v l := own_dfr h hd (by decide) (by decide)
/-- Rows that lie in blocks of their own. -/
def Owns (w : World) (B : Nat) (vs : List Value) (rs : List (List UInt8)) : Prop := ∀ (k : Nat) (v : Value) (l : List UInt8), vs[k]? = some v → rs[k]? = some l → OwnB w B v l
theorem Owns.nil (w : World) (B : Nat) : Owns w B [] [] := fun k v l h1 _ => by simp at h1
theorem Owns.below {w w' : World} {B : Nat} {vs : List Value} {rs : List (List UInt8)} (h : Owns w B vs rs) (hb : Below w.heap.size w w') : Owns w' B vs rs := fun k v l h1 h2 => (h k v l h1 h2).below hb
theorem Owns.less {w : World} {B B' : Nat} {vs : List Value} {rs : List (List UInt8)} (h : Owns w B vs rs) (hB : B' ≤ B) : Owns w B' vs rs := fun k v l h1 h2 => (h k v l h1 h2).more hB
theorem Owns.dfr {w w1 : World} {B B' : Nat} {vs : List Value} {rs : List (List UInt8)} (h : Owns w B vs rs) (hd : DFr B' w w1) : Owns w1 B vs rs := fun k v l h1 h2 => (h k v l h1 h2).dfr hd
theorem Owns.grown {w w1 : World} {B base' e' size' n' : Nat} {v' : Value} {xs' : List Value} {vs : List Value} {rs : List (List UInt8)} (h : Owns w B vs rs) (h' : w.ownsRow base' e' size' v' n' xs') (hg : w.grownBy w1 v'.ownBlock) (hne : tU8 ≠ e') : Owns w1 B vs rs := fun k u l h1 h2 => own_grow (h k u l h1 h2) h' hg hne
theorem Owns.put {w w2 : World} {B : Nat} {vs : List Value} {rs : List (List UInt8)} (h : Owns w B vs rs) {g t : Nat} {c0 c1 : Array Value} (hb : Blk w g t c0) (hp : Put w w2 g t c1) (h3 : t ≠ tU8) : Owns w2 B vs rs := fun k v l q1 q2 => own_put (h k v l q1 q2) hb hp h3
theorem Owns.snoc {w : World} {B : Nat} {vs : List Value} {rs : List (List UInt8)} (h : Owns w B vs rs) (hl : vs.length = rs.length) {v : Value} {b : List UInt8} (hb : OwnB w B v b) : Owns w B (vs ++ [v]) (rs ++ [b]) := by
  intro k u l h1 h2
  rcases Nat.lt_trichotomy k vs.length with hk | hk | hk
  · rw [List.getElem?_append_left hk] at h1
    rw [List.getElem?_append_left (by omega)] at h2
    exact h k u l h1 h2
  · subst hk
    rw [List.getElem?_append_right (Nat.le_refl _)] at h1
    rw [hl, List.getElem?_append_right (Nat.le_refl _)] at h2
    simp at h1 h2
    subst h1
    subst h2
    exact hb
  · rw [List.getElem?_eq_none (by rw [List.length_append]; simp; omega)] at h1
    cases h1
/-- A row of rows. -/
structure RowsAt (w : World) (B : Nat) (v : Value) (vs : List Value) (rs : List (List UInt8)) : Prop where
  own : w.ownsRow B tBy 1 v rs.length vs
  rd : Owns w B vs rs
theorem RowsAt.len {w : World} {B : Nat} {v : Value} {vs : List Value} {rs : List (List UInt8)} (h : RowsAt w B v vs rs) : vs.length = rs.length := by
  have := h.own.1
  omega
theorem nil_ownC (w : World) (base : Nat) (e : TypeId) (size : Nat) : w.ownsRow base e size (.slice none 0 0) 0 [] := ⟨by simp, .inl ⟨rfl, rfl⟩⟩
theorem RowsAt.nil (w : World) (B : Nat) : RowsAt w B (.slice none 0 0) [] [] := ⟨nil_ownC _ _ _ _, Owns.nil w B⟩
theorem RowsAt.below {w w' : World} {B : Nat} {v : Value} {vs : List Value} {rs : List (List UInt8)} (h : RowsAt w B v vs rs) (hb : Below w.heap.size w w') : RowsAt w' B v vs rs := ⟨own_keepW h.own hb, h.rd.below hb⟩
theorem RowsAt.less {w : World} {B B' : Nat} {v : Value} {vs : List Value} {rs : List (List UInt8)} (h : RowsAt w B v vs rs) (hB : B' ≤ B) : RowsAt w B' v vs rs := ⟨own_lessW h.own hB, h.rd.less hB⟩
theorem RowsAt.dfr {w w1 : World} {B B' : Nat} {v : Value} {vs : List Value} {rs : List (List UInt8)} (h : RowsAt w B v vs rs) (hd : DFr B' w w1) : RowsAt w1 B v vs rs := ⟨own_dfr h.own hd (by decide) (by decide), h.rd.dfr hd⟩
theorem RowsAt.put {w w2 : World} {B : Nat} {v : Value} {vs : List Value} {rs : List (List UInt8)} (h : RowsAt w B v vs rs) {g t : Nat} {c0 c1 : Array Value} (hb : Blk w g t c0) (hp : Put w w2 g t c1) (h2 : t ≠ tBy) (h3 : t ≠ tU8) : RowsAt w2 B v vs rs := ⟨own_put h.own hb hp h2, h.rd.put hb hp h3⟩
/-- One row more. -/
theorem RowsAt.app {w w1 : World} {B : Nat} {v v' : Value} {vs : List Value} {rs : List (List UInt8)} (h : RowsAt w B v vs rs) {u : Value} {b : List UInt8} (hb : OwnB w B u b) (hown : w1.ownsRow B tBy 1 v' (rs.length + 1) (vs ++ [u])) (hg : w.grownBy w1 v.ownBlock) : RowsAt w1 B v' (vs ++ [u]) (rs ++ [b]) :=
  ⟨by rw [List.length_append]; exact hown, Owns.snoc (h.rd.grown h.own hg (by decide)) h.len (own_grow hb h.own hg (by decide))⟩
/-! ### The records of bytes -/
def nOf (b : List UInt8) : Nat := foldV (b.take 4)
def sOf (b : List UInt8) : Nat := foldV ((b.drop 4).take 4)
def recB (b : List UInt8) : List UInt8 := (b.drop 8).take (nOf b)
/-- Is there no record ahead? -/
def badB (b : List UInt8) : Prop := b.length < 8 ∨ 16384 < nOf b ∨ b.length - 8 < nOf b
instance (b : List UInt8) : Decidable (badB b) := by unfold badB; infer_instance
def framesL (b : List UInt8) : List (List UInt8) × Int :=
  if h : b.length = 0 then ([], 0) else if badB b then ([], 11) else if crc (recB b) ≠ sOf b then ([], 14) else
    if (framesL (b.drop (8 + nOf b))).2 = 0 then (recB b :: (framesL (b.drop (8 + nOf b))).1, 0) else ([], (framesL (b.drop (8 + nOf b))).2)
termination_by b.length
decreasing_by
  all_goals
    rw [List.length_drop]
    omega
def comb (acc : List (List UInt8)) (r : List (List UInt8) × Int) : List (List UInt8) × Int := if r.2 = 0 then (acc ++ r.1, 0) else ([], r.2)
theorem framesL_nil : framesL [] = ([], 0) := by rw [framesL]; exact dif_pos rfl
theorem framesL_bad {b : List UInt8} (h : b.length ≠ 0) (hb : badB b) : framesL b = ([], 11) := by rw [framesL, dif_neg h, if_pos hb]
theorem framesL_sum {b : List UInt8} (h : b.length ≠ 0) (hb : ¬ badB b) (hs : crc (recB b) ≠ sOf b) : framesL b = ([], 14) := by rw [framesL, dif_neg h, if_neg hb, if_pos hs]
theorem framesL_go {b : List UInt8} (h : b.length ≠ 0) (hb : ¬ badB b) (hs : crc (recB b) = sOf b) : framesL b = comb [recB b] (framesL (b.drop (8 + nOf b))) := by
  rw [framesL, dif_neg h, if_neg hb, if_neg (fun h2 => h2 hs)]
  rfl
theorem comb_nil (r : List (List UInt8) × Int) (h : r.2 ≠ 0 → r.1 = []) : comb [] r = r := by
  unfold comb
  split
  · rename_i h2
    rw [List.nil_append, ← h2]
  · rename_i h2
    rw [← h h2]
theorem framesL_err (b : List UInt8) : (framesL b).2 ≠ 0 → (framesL b).1 = [] := by
  intro h
  rw [framesL] at h ⊢
  split
  · rfl
  · split
    · rfl
    · split
      · rfl
      · split
        · rename_i h1 h2 h3 h4
          rw [dif_neg h1, if_neg h2, if_neg h3, if_pos h4] at h
          exact absurd rfl h
        · rfl
theorem comb_comb (a b : List (List UInt8)) (r : List (List UInt8) × Int) : comb a (comb b r) = comb (a ++ b) r := by
  unfold comb
  by_cases h : r.2 = 0
  · rw [if_pos h, if_pos h, if_pos rfl, List.append_assoc]
  · rw [if_neg h, if_neg h, if_neg h]
theorem nOf_lt (b : List UInt8) : nOf b < 4294967296 := by
  have h := foldV_lt (b.take 4)
  have hl : (b.take 4).length ≤ 4 := by rw [List.length_take]; omega
  have hp : 256 ^ (b.take 4).length ≤ 256 ^ 4 := Nat.pow_le_pow_right (by decide) hl
  unfold nOf
  omega
end Go.Proofs.Ytlpdiamgpnmeoaa
