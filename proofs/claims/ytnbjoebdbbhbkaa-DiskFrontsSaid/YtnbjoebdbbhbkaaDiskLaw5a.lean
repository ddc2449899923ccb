/- DiskFronts: the plain law. -/
import Derived.Test.YtnbjoebdbbhbkaaDiskLaw4
namespace Go.Proofs.Ytnbjoebdbbhbkaa
open Go.RowKit
set_option linter.unusedVariables false

/-- Cells by a function. -/
def wantA (n : Nat) (f : Nat → UInt8) : Array Value := ((List.range n).map fun p => cb (f p)).toArray
def fillF (f : Nat → UInt8) (a k : Nat) (y : UInt8) : Nat → UInt8 := fun q => if a ≤ q ∧ q < a + k then y else f q
theorem fillF_zero (f : Nat → UInt8) (a : Nat) (y : UInt8) : fillF f a 0 y = f := by
  funext q
  unfold fillF
  rw [if_neg (by omega)]
theorem wantA_size (n : Nat) (f : Nat → UInt8) : (wantA n f).size = n := by simp [wantA]
theorem wantA_get {n : Nat} {f : Nat → UInt8} {p : Nat} (h : p < n) : (wantA n f)[p]? = some (.int .u8 ((f p).toNat : Int)) := by simp [wantA, h, cb]
theorem wantA_fill {n : Nat} {f : Nat → UInt8} {a k : Nat} {y : UInt8} (h : a + k < n) : (wantA n (fillF f a k y)).setIfInBounds (a + k) (.int .u8 (y.toNat : Int)) = wantA n (fillF f a (k + 1) y) := by
  apply Array.ext_getElem?
  intro q
  rw [Array.getElem?_setIfInBounds]
  by_cases e : a + k = q
  · subst e
    rw [if_pos rfl, if_pos (by rw [wantA_size]; exact h), wantA_get h]
    unfold fillF
    rw [if_pos (by omega)]
  · rw [if_neg e]
    by_cases hq : q < n
    · rw [wantA_get hq, wantA_get hq]
      unfold fillF
      have : (a ≤ q ∧ q < a + k) ↔ (a ≤ q ∧ q < a + (k + 1)) := by omega
      simp only [this]
    · rw [Array.getElem?_eq_none (by rw [wantA_size]; omega), Array.getElem?_eq_none (by rw [wantA_size]; omega)]
theorem wantA_zero (n : Nat) : zrow n (.int .u8 0) = wantA n (fun _ => 0) := by
  apply Array.toList_inj.1
  simp [zrow, wantA, cb]
  apply List.ext_getElem <;> simp
def blkF (f : Nat → UInt8) (j : Nat) : List UInt8 := (List.range 256).map fun k => f (256 * j + k)
theorem blkF_length (f : Nat → UInt8) (j : Nat) : (blkF f j).length = 256 := by unfold blkF; rw [List.length_map, List.length_range]
theorem blkF_get (f : Nat → UInt8) (j k : Nat) (h : k < (blkF f j).length) : (blkF f j)[k] = f (256 * j + k) := by simp [blkF]
theorem blkF_fill_ne {f : Nat → UInt8} {j z k : Nat} {y : UInt8} (h : j ≠ z) (hk : k ≤ 256) : blkF (fillF f (256 * z) k y) j = blkF f j := by
  unfold blkF
  apply List.map_congr_left
  intro q hq
  have := List.mem_range.1 hq
  unfold fillF
  rw [if_neg (by omega)]
theorem blkF_fill {f : Nat → UInt8} {z k : Nat} {y : UInt8} (hk : k ≤ 256) : blkF (fillF f (256 * z) k y) z = mixB (fullX [y]) (blkF f z) k := by
  apply List.ext_getElem
  · rw [blkF_length, mixB_length (fullX_length _) (blkF_length _ _) hk]
  · intro q h1 h2
    rw [blkF_get]
    rw [blkF_length] at h1
    unfold fillF
    by_cases hq : q < k
    · rw [if_pos (by omega), mixB_lt hq (by rw [fullX_length]; exact h1), full1_get]
    · rw [if_neg (by omega), mixB_ge (by rw [fullX_length]; exact hk) (by omega) (by rw [blkF_length]; exact h1), blkF_get]
theorem mixB_all {l old : List UInt8} (h : l.length = 256) (ho : old.length = 256) : mixB l old 256 = l := by
  unfold mixB
  rw [List.take_of_length_le (by omega), List.drop_of_length_le (by omega), List.append_nil]
theorem mixB_none (l old : List UInt8) : mixB l old 0 = old := rfl
/-- The first m blocks are the function's. -/
def MatchF (G : Nat → List UInt8) (m : Nat) (f : Nat → UInt8) : Prop := ∀ j, j < m → G j = blkF f j
theorem match_first {D : DS} {i : Nat} {f : Nat → UInt8} (h : MatchF (fun j => readAt D (j : Int)) i f) (y : UInt8) : MatchF (fun j => readAt { D with loose := D.loose ++ [((i : Int), fullX [y])] } (j : Int)) (i + 1) (fillF f (256 * i) 256 y) := by
  intro j hj
  show readAt _ _ = _
  rw [readAt_push]
  by_cases e : j = i
  · subst e
    rw [if_pos rfl, blkF_fill (Nat.le_refl _), mixB_all (fullX_length _) (blkF_length _ _)]
  · rw [if_neg (by show ¬ ((i : Int) = (j : Int)); omega), blkF_fill_ne e (Nat.le_refl _)]
    exact h j (by omega)
/-- A block, behind a crash at which these fronts are there. -/
def crG (D : DS) (front : List UInt8) (j : Nat) : List UInt8 := (crashG D.good (D.loose.zip front) (j : Int)).getD zeros
def frN (front : List UInt8) (i : Nat) : Nat := if h : i < front.length then frontN front[i] else 0
theorem frN_le (front : List UInt8) (i : Nat) : frN front i ≤ 256 := by
  unfold frN
  split
  · exact frontN_le _
  · omega
theorem zip_snoc {α β : Type} : ∀ (L : List α) (x : α) (fr : List β) (h : L.length < fr.length), (L ++ [x]).zip fr = L.zip fr ++ [(x, fr[L.length])]
  | [], x, f :: fs, h => by simp
  | a :: L, x, f :: fs, h => by
    simp only [List.cons_append, List.zip_cons_cons, List.length_cons, List.getElem_cons_succ]
    rw [zip_snoc L x fs (by simpa using h)]
theorem zip_snoc_ge {α β : Type} : ∀ (L : List α) (x : α) (fr : List β) (_ : fr.length ≤ L.length), (L ++ [x]).zip fr = L.zip fr
  | [], x, [], h => rfl
  | a :: L, x, [], h => rfl
  | a :: L, x, f :: fs, h => by
    simp only [List.cons_append, List.zip_cons_cons]
    rw [zip_snoc_ge L x fs (by simpa using h)]
theorem crG_push (D : DS) (front : List UInt8) (z : Nat) (l : List UInt8) (j : Nat) : crG { D with loose := D.loose ++ [((z : Int), l)] } front j = if j = z then mixB l (crG D front z) (frN front D.loose.length) else crG D front j := by
  unfold crG frN
  show (crashG D.good ((D.loose ++ [((z : Int), l)]).zip front) (j : Int)).getD zeros = _
  by_cases h : D.loose.length < front.length
  · rw [zip_snoc _ _ _ h, crashG_snoc, dif_pos h]
    unfold crash1 putG
    by_cases e : j = z
    · subst e; rw [if_pos rfl, if_pos rfl]; rfl
    · rw [if_neg (by show ¬ ((j : Int) = (z : Int)); omega), if_neg e]
  · rw [zip_snoc_ge _ _ _ (by omega), dif_neg h, mixB_none]
    by_cases e : j = z
    · subst e; rw [if_pos rfl]
    · rw [if_neg e]
theorem match_later {D : DS} {front : List UInt8} {n i : Nat} {f : Nat → UInt8} (h : MatchF (crG D front) n f) (hi : D.loose.length = i) {z : Nat} (hz : z < n) (y : UInt8) :
    MatchF (crG { D with loose := D.loose ++ [((z : Int), fullX [y])] } front) n (fillF f (256 * z) (frN front i) y) := by
  subst hi
  intro j hj
  rw [crG_push]
  by_cases e : j = z
  · subst e; rw [if_pos rfl, blkF_fill (frN_le _ _), h j hj]
  · rw [if_neg e, blkF_fill_ne e (frN_le _ _)]
    exact h j hj
theorem match_sync {D : DS} {front : List UInt8} {n : Nat} {f : Nat → UInt8} (h : MatchF (fun j => readAt D (j : Int)) n f) : MatchF (crG (syncD D) front) n f := by
  intro j hj
  rw [← h j hj]
  show _ = readAt D (j : Int)
  rw [← readAt_sync D]
  rfl
theorem match_crash {D : DS} {front : List UInt8} {n : Nat} {f : Nat → UInt8} (h : MatchF (crG D front) n f) : MatchF (fun j => readAt (crashD D front) (j : Int)) n f := h
end Go.Proofs.Ytnbjoebdbbhbkaa
