
/- Records, plain: what is there for good, and what a crash leaves. -/
import Derived.Test.YtlpdiamgpnmeoaaWaS
namespace Go.Proofs.Ytlpdiamgpnmeoaa
open Go.RowKit
set_option linter.unusedVariables false
def gz (g : Int → Option (List UInt8)) (i : Int) : List UInt8 := (g i).getD zeros
theorem gz_put (g : Int → Option (List UInt8)) (i k : Int) (l : List UInt8) : gz (putG g i l) k = if k = i then l else gz g k := by
  unfold gz putG
  split <;> rfl
/-- From block f on lie these bytes. -/
def Ag (G : Int → List UInt8) (f : Nat) (b : List UInt8) : Prop := ∀ p (h : p < b.length), (G ((f + p / 256 : Nat) : Int))[p % 256]? = some b[p]
/-- A write that leaves them there, and leaves the supers. -/
def Harm (f : Nat) (b : List UInt8) (z : Int × List UInt8) : Prop := z.2.length = 256 ∧ 2 ≤ z.1 ∧ ∀ p (h : p < b.length), z.1 = ((f + p / 256 : Nat) : Int) → z.2[p % 256]? = some b[p]
/-- These records are there for good: turn T, area a. -/
structure Dur (g : Int → Option (List UInt8)) (size T a : Nat) (rs : List (List UInt8)) : Prop where
  len : ∀ k, (gz g k).length = 256
  cur : gz g ((T % 2 : Nat) : Int) = superL T a (framL rs).length
  slot : Slot (gz g (((T + 1) % 2 : Nat) : Int)) T
  ag : Ag (gz g) (2 + a * size) (framL rs)
  a2 : a < 2
  zero : T = 0 → a = 0 ∧ rs = []
  fits : (framL rs).length ≤ size * 256
  short : ∀ r ∈ rs, r.length ≤ 16384
  t : T < 255
  sz : size ≤ 1000
theorem Dur.mix {g : Int → Option (List UInt8)} {size T a : Nat} {rs : List (List UInt8)} (h : Dur g size T a rs) {z : Int × List UInt8} (hz : Harm (2 + a * size) (framL rs) z) {n : Nat} (hn : n ≤ 256) : Dur (putG g z.1 (mixB z.2 (gz g z.1) n)) size T a rs := by
  have h01 : ∀ k : Nat, k < 2 → gz (putG g z.1 (mixB z.2 (gz g z.1) n)) (k : Int) = gz g (k : Int) := by
    intro k hk
    rw [gz_put, if_neg (by have := hz.2.1; omega)]
  refine ⟨fun k => ?_, by rw [h01 _ (Nat.mod_lt _ (by decide))]; exact h.cur, by rw [h01 _ (Nat.mod_lt _ (by decide))]; exact h.slot, fun p hp => ?_, h.a2, h.zero, h.fits, h.short, h.t, h.sz⟩
  · rw [gz_put]
    split
    · exact mixB_length hz.1 (h.len _) hn
    · exact h.len k
  · rw [gz_put]
    split
    · rename_i he
      rw [mix_get hz.1 (h.len _) hn]
      split
      · exact hz.2.2 p hp he.symm
      · rw [← he]
        exact h.ag p hp
    · exact h.ag p hp
theorem mixB_full {l old : List UInt8} (h : l.length = 256) (ho : old.length = 256) : mixB l old 256 = l := by
  unfold mixB
  rw [List.take_of_length_le (by omega), List.drop_eq_nil_of_le (by omega), List.append_nil]
theorem Dur.put {g : Int → Option (List UInt8)} {size T a : Nat} {rs : List (List UInt8)} (h : Dur g size T a rs) {z : Int × List UInt8} (hz : Harm (2 + a * size) (framL rs) z) : Dur (putG g z.1 z.2) size T a rs := by
  have := h.mix hz (Nat.le_refl 256)
  rwa [mixB_full hz.1 (h.len _)] at this
theorem Dur.crash {size T a : Nat} {rs : List (List UInt8)} : ∀ (ls : List ((Int × List UInt8) × UInt8)) (g : Int → Option (List UInt8)), Dur g size T a rs → (∀ z ∈ ls, Harm (2 + a * size) (framL rs) z.1) → Dur (crashG g ls) size T a rs
  | [], g, h, _ => h
  | z :: ls, g, h, hz => by
    show Dur (crashG (crash1 g z) ls) size T a rs
    exact Dur.crash ls _ (h.mix (hz z (by simp)) (frontN_le _)) (fun y hy => hz y (by simp [hy]))
theorem Dur.sync {size T a : Nat} {rs : List (List UInt8)} : ∀ (ls : List (Int × List UInt8)) (g : Int → Option (List UInt8)), Dur g size T a rs → (∀ z ∈ ls, Harm (2 + a * size) (framL rs) z) → Dur (syncG g ls) size T a rs
  | [], g, h, _ => h
  | z :: ls, g, h, hz => by
    show Dur (syncG (putG g z.1 z.2) ls) size T a rs
    exact Dur.sync ls _ (h.put (hz z (by simp))) (fun y hy => hz y (by simp [hy]))
theorem Dur.crashD {D : DS} {size T a : Nat} {rs : List (List UInt8)} (h : Dur D.good size T a rs) (hz : ∀ z ∈ D.loose, Harm (2 + a * size) (framL rs) z) (front : List UInt8) : Dur (crashD D front).good size T a rs :=
  h.crash _ _ (fun z hz' => hz z.1 (List.of_mem_zip hz').1)
/-- The next super, laid whole. -/
theorem Dur.next {g : Int → Option (List UInt8)} {size T a a' : Nat} {rs rs' : List (List UInt8)} (h : Dur g size T a rs) (ha : a' < 2) (hag : Ag (gz g) (2 + a' * size) (framL rs')) (hf : (framL rs').length ≤ size * 256) (hsh : ∀ r ∈ rs', r.length ≤ 16384) (hT : T + 1 < 255) :
    Dur (putG g (((T + 1) % 2 : Nat) : Int) (superL (T + 1) a' (framL rs').length)) size (T + 1) a' rs' := by
  refine ⟨fun k => ?_, ?_, ?_, fun p hp => ?_, ha, fun h0 => by omega, hf, hsh, hT, h.sz⟩
  · rw [gz_put]
    split
    · exact superL_256 _ _ _
    · exact h.len k
  · rw [gz_put, if_pos rfl]
  · rw [gz_put, if_neg (by omega), show (T + 1 + 1) % 2 = T % 2 by omega, h.cur]
    exact slot_super (by have := h.t; omega) _ _ (.inl (by omega))
  · rw [gz_put, if_neg (by omega)]
    exact hag p hp
/-- The next super, torn. -/
theorem Dur.torn {g : Int → Option (List UInt8)} {size T a a' : Nat} {rs rs' : List (List UInt8)} (h : Dur g size T a rs) (ha : a' < 2) (hag : Ag (gz g) (2 + a' * size) (framL rs')) (hf : (framL rs').length ≤ size * 256) (hsh : ∀ r ∈ rs', r.length ≤ 16384) (hT : T + 1 < 255) {n : Nat} (hn : n ≤ 256) :
    Dur (putG g (((T + 1) % 2 : Nat) : Int) (mixB (superL (T + 1) a' (framL rs').length) (gz g (((T + 1) % 2 : Nat) : Int)) n)) size T a rs ∨ Dur (putG g (((T + 1) % 2 : Nat) : Int) (mixB (superL (T + 1) a' (framL rs').length) (gz g (((T + 1) % 2 : Nat) : Int)) n)) size (T + 1) a' rs' := by
  rcases torn_super (h.len _) h.slot (by omega) hn a' (framL rs').length with h1 | h1
  · right
    rw [h1]
    exact h.next ha hag hf hsh hT
  · left
    refine ⟨fun k => ?_, ?_, ?_, fun p hp => ?_, h.a2, h.zero, h.fits, h.short, h.t, h.sz⟩
    · rw [gz_put]
      split
      · exact mixB_length (superL_256 _ _ _) (h.len _) hn
      · exact h.len k
    · rw [gz_put, if_neg (by omega)]
      exact h.cur
    · rw [gz_put, if_pos rfl]
      exact h1
    · rw [gz_put, if_neg (by omega)]
      exact h.ag p hp
/-! ### Opening -/
theorem readAt_good {D : DS} (h : D.loose = []) (i : Int) : readAt D i = gz D.good i := by
  unfold readAt
  rw [h]
  rfl
theorem runB_get {D : DS} (h : D.Ok) (f : Nat) : ∀ (n p : Nat), p < n * 256 → (runB D f n)[p]? = (readAt D ((f + p / 256 : Nat) : Int))[p % 256]?
  | 0, p, hp => by omega
  | n + 1, p, hp => by
    rw [show runB D f (n + 1) = runB D f n ++ readAt D ((f + n : Nat) : Int) from rfl]
    by_cases hlt : p < n * 256
    · rw [List.getElem?_append_left (by rw [runB_len h]; exact hlt)]
      exact runB_get h f n p hlt
    · rw [List.getElem?_append_right (by rw [runB_len h]; omega), runB_len h, show p / 256 = n by omega, show p - n * 256 = p % 256 by omega]
theorem run_ag {D : DS} (h : D.Ok) {f n : Nat} {b : List UInt8} (hag : Ag (readAt D) f b) (hb : b.length ≤ n * 256) : (runB D f n).take b.length = b := by
  apply List.ext_getElem?
  intro p
  rw [List.getElem?_take]
  split
  · rename_i hp
    rw [runB_get h f n p (by omega), hag p hp, List.getElem?_eq_getElem hp]
  · rename_i hp
    rw [List.getElem?_eq_none (by omega)]
theorem stS_dur {D : DS} {T a : Nat} {rs : List (List UInt8)} (hl : D.loose = []) (h : Dur D.good (sizeD D) T a rs) : stS D (sizeD D) 2 = (T, a, (framL rs).length) := by
  have hs := h.sz
  have hf := h.fits
  have ht := h.t
  have hcur : isS (sizeD D) (superL T a (framL rs).length) = decide (0 < T) := by
    by_cases h0 : 0 < T
    · rw [isS_super h0 (by omega) h.a2 hf (by omega), decide_eq_true h0]
    · rw [decide_eq_false h0]
      unfold isS
      rw [tOf_super (by omega), decide_eq_false h0]
      rfl
  have e : stS D (sizeD D) 2 = pickS (sizeD D) (pickS (sizeD D) (0, 0, 0) (gz D.good ((0 : Nat) : Int))) (gz D.good ((1 : Nat) : Int)) := by
    rw [← readAt_good hl, ← readAt_good hl]
    rfl
  have hpt : ∀ st : Nat × Nat × Nat, 0 < T → st.1 < T → pickS (sizeD D) st (superL T a (framL rs).length) = (T, a, (framL rs).length) := by
    intro st h0 hst
    unfold pickS
    rw [hcur, tOf_super (by omega), aOf_super (by have := h.a2; omega), lOf_super (by omega)]
    rw [if_pos ⟨decide_eq_true h0, hst⟩]
  have hpz : T = 0 → ∀ st : Nat × Nat × Nat, pickS (sizeD D) st (superL T a (framL rs).length) = st := by
    intro h0 st
    unfold pickS
    rw [hcur, if_neg]
    rintro ⟨h1, _⟩
    rw [decide_eq_true_eq] at h1
    omega
  have hsl : ∀ (o : List UInt8) (st : Nat × Nat × Nat), o.length = 256 → Slot o T → st.1 < T ∨ st.1 = T → (pickS (sizeD D) st o).1 < T ∨ pickS (sizeD D) st o = st := by
    intro o st ho hso _
    unfold pickS
    split
    · rename_i hh
      exact .inl (slot_less ho hso hh.1)
    · exact .inr rfl
  have hsl2 : ∀ (o : List UInt8) (x y : Nat), o.length = 256 → Slot o T → pickS (sizeD D) (T, x, y) o = (T, x, y) := by
    intro o x y ho hso
    unfold pickS
    rw [if_neg]
    rintro ⟨h1, h2⟩
    have := slot_less ho hso h1
    have h3 : T < tOf o := h2
    omega
  rw [e]
  by_cases hz : T = 0
  · obtain ⟨ha, hr⟩ := h.zero hz
    have hc := h.cur
    have hso := h.slot
    subst hz
    rw [show ((0 % 2 : Nat) : Int) = ((0 : Nat) : Int) from rfl] at hc
    rw [show (((0 + 1) % 2 : Nat) : Int) = ((1 : Nat) : Int) from rfl] at hso
    rw [hc, hpz rfl, hsl2 _ 0 0 (h.len _) hso, ha, hr]
    rfl
  · by_cases hp : T % 2 = 0
    · have hc := h.cur
      have hso := h.slot
      rw [hp] at hc
      rw [show (T + 1) % 2 = 1 by omega] at hso
      rw [hc, hpt _ (by omega) (by show 0 < T; omega)]
      exact hsl2 _ _ _ (h.len _) hso
    · have hc := h.cur
      have hso := h.slot
      rw [show T % 2 = 1 by omega] at hc
      rw [show (T + 1) % 2 = 0 by omega] at hso
      rw [hc]
      refine hpt _ (by omega) ?_
      rcases hsl _ (0, 0, 0) (h.len _) hso (.inl (by show 0 < T; omega)) with h1 | h1
      · exact h1
      · rw [h1]
        show 0 < T
        omega
/-- What is opened is what was for good. -/
theorem open_dur {D : DS} (hok : D.Ok) {T a : Nat} {rs : List (List UInt8)} (hl : D.loose = []) (h : Dur D.good (sizeD D) T a rs) :
    openL D = { size := sizeD D, turn := T, area := a, b := framL rs, rows := rs, sure := rs.length, e := 0 } ∧ (framesL (openB D)).2 = 0 := by
  have hst := stS_dur hl h
  have hag : Ag (readAt D) (2 + a * sizeD D) (framL rs) := by
    intro p hp
    rw [readAt_good hl]
    exact h.ag p hp
  have hb : openB D = framL rs := by
    unfold openB
    rw [hst]
    exact run_ag hok hag h.fits
  have hfr := framesL_framL rs h.short
  refine ⟨?_, by rw [hb, hfr]⟩
  unfold openL
  rw [hb, hfr, hst]
end Go.Proofs.Ytlpdiamgpnmeoaa
