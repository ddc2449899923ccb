
/- Records, plain: what the calls do. -/
import Derived.Test.YtlpdiamgpnmeoaaWaT
namespace Go.Proofs.Ytlpdiamgpnmeoaa
open Go.RowKit
set_option linter.unusedVariables false
/-- A disk that goes. -/
def Alive (D : DS) : Prop := D.dead = false
/-- Writes were laid, as far as the disk went. -/
structure Wrote (D D' : DS) (ws : List (Int × List UInt8)) (e : Int) : Prop where
  n : D'.n = D.n
  good : D'.good = D.good
  res : (e = 0 ∧ D'.dead = false ∧ D'.loose = D.loose ++ ws) ∨ (e = 30 ∧ D'.dead = true ∧ ∃ q, D'.loose = D.loose ++ ws.take q)
  calm : D.fails = -1 → e = 0 ∧ D'.fails = -1
theorem countD_fails {D : DS} (h : D.fails = -1) : countE D = 0 ∧ (countD D).fails = -1 ∧ (countD D).dead = D.dead := by
  unfold countE countD
  rw [if_neg (by omega), if_neg (by omega), if_neg (by omega)]
  exact ⟨rfl, h, rfl⟩
theorem countE_two (D : DS) : (countE D = 0 ∧ (countD D).dead = D.dead) ∨ (countE D = 30 ∧ (countD D).dead = true) := by
  unfold countE countD
  by_cases h : D.fails = 0
  · rw [if_pos h, if_pos h]
    exact .inr ⟨rfl, rfl⟩
  · rw [if_neg h, if_neg h]
    refine .inl ⟨rfl, ?_⟩
    split <;> rfl
/-- One write. -/
theorem write_one {D : DS} (hd : D.dead = false) {i : Int} {l : List UInt8} (hi : thereB D i = true) (hl : l.length = 256) : Wrote D (writeD D i l) [(i, l)] (writeE D i l) := by
  have e1 : writeE D i l = countE D := by unfold writeE; rw [hd, hi, if_pos hl]; rfl
  have e2 : writeD D i l = if countE D = 0 then { countD D with loose := (countD D).loose ++ [(i, l)] } else countD D := by unfold writeD; rw [hd, hi, if_pos hl]; rfl
  rcases countE_two D with ⟨h1, h2⟩ | ⟨h1, h2⟩
  · rw [if_pos h1] at e2
    refine ⟨by rw [e2]; exact countD_n D, by rw [e2]; exact countD_good D, .inl ⟨by rw [e1, h1], by rw [e2]; exact h2.trans hd, by rw [e2]; show (countD D).loose ++ _ = _; rw [countD_loose]⟩, fun hf => ⟨by rw [e1, h1], by rw [e2]; exact (countD_fails hf).2.1⟩⟩
  · rw [if_neg (by omega)] at e2
    refine ⟨by rw [e2]; exact countD_n D, by rw [e2]; exact countD_good D, .inr ⟨by rw [e1, h1], by rw [e2]; exact h2, 0, by rw [e2, countD_loose]; simp⟩, fun hf => ?_⟩
    have := (countD_fails hf).1
    omega
/-- The writes of a lay. -/
def layWs (f : Nat) (c : List UInt8) (m : Nat) : List (Int × List UInt8) := (List.range m).map fun j => (((f + j : Nat) : Int), blkC c j)
theorem layWs_succ (f : Nat) (c : List UInt8) (m : Nat) : layWs f c (m + 1) = layWs f c m ++ [(((f + m : Nat) : Int), blkC c m)] := by simp [layWs, List.range_succ]
theorem layWs_len (f : Nat) (c : List UInt8) (m : Nat) : (layWs f c m).length = m := by simp [layWs]
theorem lay_wrote {D : DS} (hd : D.dead = false) {f : Nat} {c : List UInt8} : ∀ (m : Nat), f + m ≤ D.n → Wrote D (layP D f c (List.range m)).2.1 (layWs f c m) (layP D f c (List.range m)).1
  | 0, _ => ⟨rfl, rfl, .inl ⟨rfl, hd, by simp [layWs, layP]⟩, fun h => ⟨rfl, h⟩⟩
  | m + 1, hm => by
    have ih := lay_wrote hd (f := f) (c := c) m (by omega)
    rw [List.range_succ, layP_snoc, layWs_succ]
    have hcnt := @layP_count D f c (List.range m)
    obtain ⟨s, hs⟩ : ∃ s, s = layP D f c (List.range m) := ⟨_, rfl⟩
    rw [← hs] at ih hcnt ⊢
    unfold layStep
    by_cases h0 : s.1 = 0
    · rw [if_pos h0, hcnt h0, List.length_range]
      rcases ih.res with ⟨q1, q2, q3⟩ | ⟨q1, q2, q3⟩
      · have hth : thereB s.2.1 ((f + m : Nat) : Int) = true := by
          unfold thereB
          rw [ih.n, decide_eq_true (by omega), decide_eq_true (by omega)]
          rfl
        have hw := write_one q2 hth (blkC_len c m)
        refine ⟨hw.n.trans ih.n, hw.good.trans ih.good, ?_, fun hf => hw.calm (ih.calm hf).2⟩
        rcases hw.res with ⟨r1, r2, r3⟩ | ⟨r1, r2, q, r3⟩
        · exact .inl ⟨r1, r2, by rw [r3, q3, List.append_assoc]⟩
        · refine .inr ⟨r1, r2, ?_⟩
          by_cases hq : q = 0
          · refine ⟨m, ?_⟩
            rw [r3, q3, hq, List.take_left' (layWs_len f c m), List.take_zero, List.append_nil]
          · refine ⟨m + 1, ?_⟩
            have h1 : ([(((f + m : Nat) : Int), blkC c m)] : List (Int × List UInt8)).take q = [(((f + m : Nat) : Int), blkC c m)] := List.take_of_length_le (by show 1 ≤ q; omega)
            have h2 : (layWs f c m ++ [(((f + m : Nat) : Int), blkC c m)]).take (m + 1) = layWs f c m ++ [(((f + m : Nat) : Int), blkC c m)] := List.take_of_length_le (by rw [List.length_append, layWs_len]; exact Nat.le_refl _)
            rw [r3, q3, h1, h2, List.append_assoc]
      · rw [q1] at h0
        exact absurd h0 (by decide)
    · rw [if_neg h0]
      refine ⟨ih.n, ih.good, ?_, fun hf => absurd (ih.calm hf).1 h0⟩
      rcases ih.res with ⟨q1, q2, q3⟩ | ⟨q1, q2, q, q3⟩
      · exact absurd q1 h0
      · refine .inr ⟨q1, q2, min q m, ?_⟩
        rw [q3, List.take_append_of_le_length (by rw [layWs_len]; exact Nat.min_le_right _ _)]
        congr 1
        by_cases hqm : q ≤ m
        · rw [Nat.min_eq_left hqm]
        · rw [Nat.min_eq_right (by omega), List.take_of_length_le (by rw [layWs_len]; omega), List.take_of_length_le (by rw [layWs_len]; exact Nat.le_refl _)]
/-- What a block reads as behind a lay. -/
theorem readL_app (i : Int) (a b : List (Int × List UInt8)) (z : List UInt8) : readL i (a ++ b) z = readL i b (readL i a z) := by simp [readL]
theorem readL_lay (f : Nat) (c : List UInt8) (i : Int) (z : List UInt8) : ∀ m, (∀ j, j < m → i = ((f + j : Nat) : Int) → readL i (layWs f c m) z = blkC c j) ∧ ((∀ j, j < m → i ≠ ((f + j : Nat) : Int)) → readL i (layWs f c m) z = z)
  | 0 => ⟨fun j hj => by omega, fun _ => rfl⟩
  | m + 1 => by
    obtain ⟨h1, h2⟩ := readL_lay f c i z m
    rw [layWs_succ, readL_snoc]
    constructor
    · intro j hj he
      by_cases hjm : j = m
      · subst hjm
        rw [if_pos he.symm]
      · rw [if_neg (by show ((f + m : Nat) : Int) ≠ i; omega)]
        exact h1 j (by omega) he
    · intro h
      rw [if_neg (fun e => h m (by omega) e.symm)]
      exact h2 (fun j hj => h j (by omega))
theorem blkC_get {c : List UInt8} {p : Nat} (h : p < c.length) : (blkC c (p / 256))[p % 256]? = some c[p] := by
  have hm := Nat.mod_lt p (show 0 < 256 by decide)
  have hdm := Nat.div_add_mod p 256
  have hl : p % 256 < (pcC c (p / 256)).length := by
    unfold pcC
    rw [List.length_take, List.length_drop]
    omega
  unfold blkC
  rw [List.getElem?_append_left hl]
  unfold pcC
  rw [List.getElem?_take, if_pos hm, List.getElem?_drop, hdm, List.getElem?_eq_getElem h]
end Go.Proofs.Ytlpdiamgpnmeoaa
