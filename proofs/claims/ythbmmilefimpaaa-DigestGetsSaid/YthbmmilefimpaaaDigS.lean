
/- The document's Get is the program's; what is got is put as the same bytes: the plain laws. -/
import Derived.Test.YthbmmilefimpaaaDigR
namespace Go.Proofs.Ythbmmilefimpaaa
open Go.RowKit Go.Maps
set_option linter.unusedVariables false
/-- The document's answer, step by step. -/
def refFin (ks : List Key) (n : Nat) (s : RS) : Int × List Key × List (List UInt8) :=
  if endE (hRun n s) ≠ 0 then (endE (hRun n s), [], []) else (0, ks, hList n s)
def refMid (ks : List Key) (s : RS) : Int × List Key × List (List UInt8) :=
  if (numS s 1).e = 0 ∧ 32 < numV s 1 then (13, [], []) else refFin ks (numV s 1) (numS s 1)
def refOut (b : List UInt8) : Int × List Key × List (List UInt8) :=
  if (numS ⟨b, 0⟩ 1).e = 0 ∧ 32 < numV ⟨b, 0⟩ 1 then (13, [], []) else refMid (kList (numV ⟨b, 0⟩ 1) (numS ⟨b, 0⟩ 1)) (kRun (numV ⟨b, 0⟩ 1) (numS ⟨b, 0⟩ 1))
theorem take_bad {s : RS} {n : Nat} (h : (takeS s n).e ≠ 0) : takeV s n = [] := by
  unfold takeS at h
  unfold takeV
  by_cases he : s.e = 0
  · rw [if_pos he] at h ⊢
    by_cases hl : s.b.length < n
    · rw [if_pos hl]
    · rw [if_neg hl] at h
      exact absurd he h
  · rw [if_neg he]
theorem num_bad {s : RS} {n : Int} (h : (numS s n).e ≠ 0) : numV s n = 0 := by
  unfold numS at h
  unfold numV
  by_cases hm : mayB n = true
  · rw [if_pos hm] at h ⊢
    rw [take_bad h]
    rfl
  · rw [if_neg hm]
theorem end_of {s : RS} (h : s.e ≠ 0) : endE s = s.e := stuck_end h
theorem mid_eq (ks : List Key) (s : RS) : refMid ks s = if countE s ≠ 0 then (countE s, [], []) else refFin ks (countV s) (numS s 1) := by
  unfold refMid countE countV
  by_cases he : (numS s 1).e = 0
  · have he' : ¬ (numS s 1).e ≠ 0 := fun h => h he
    rw [if_neg he', if_neg he']
    by_cases hn : 32 < numV s 1
    · rw [if_pos ⟨he, hn⟩, if_pos hn, if_pos (by decide)]
    · rw [if_neg (fun h => hn h.2), if_neg hn, if_neg hn, if_neg (fun h => h rfl)]
  · rw [if_neg (fun h => he h.1), if_pos he, if_pos he, num_bad he]
    unfold refFin hRun
    rw [end_of he, if_pos he]
theorem refOut_eq (b : List UInt8) : refOut b = getOut b := by
  have hm : ∀ n s, refMid (kList n s) (kRun n s) = if countE (kRun n s) ≠ 0 then (countE (kRun n s), [], []) else refFin (kList n s) (countV (kRun n s)) (numS (kRun n s) 1) := fun n s => mid_eq _ _
  unfold refOut getOut
  rw [hm]
  by_cases he : (numS ⟨b, 0⟩ 1).e = 0
  · have he' : ¬ (numS ⟨b, 0⟩ 1).e ≠ 0 := fun h => h he
    by_cases hn : 32 < numV ⟨b, 0⟩ 1
    · have hE : countE ⟨b, 0⟩ = 13 := by unfold countE; rw [if_neg he', if_pos hn]
      rw [if_pos ⟨he, hn⟩, hE, if_pos (by decide)]
    · have hE : countE ⟨b, 0⟩ = 0 := by unfold countE; rw [if_neg he', if_neg hn]
      have hV : countV ⟨b, 0⟩ = numV ⟨b, 0⟩ 1 := by unfold countV; rw [if_neg he', if_neg hn]
      rw [if_neg (fun h => hn h.2), hE, hV, if_neg (show ¬ ((0 : Int) ≠ 0) from fun h => h rfl)]
      rfl
  · have hE : countE ⟨b, 0⟩ = (numS ⟨b, 0⟩ 1).e := by unfold countE; rw [if_pos he]
    have h2 : countE (numS ⟨b, 0⟩ 1) = (numS ⟨b, 0⟩ 1).e := by unfold countE; rw [(stuck_num he 1).2, if_pos he]
    rw [if_neg (fun h => he h.1), num_bad he]
    unfold kRun
    rw [h2, if_pos he, hE, if_pos he]
/-! ### What is got is put as the same bytes -/
theorem take_good {s : RS} {n : Nat} (h : (takeS s n).e = 0) : s.e = 0 ∧ takeV s n ++ (takeS s n).b = s.b ∧ (takeV s n).length = n := by
  unfold takeS takeV at *
  by_cases he : s.e = 0
  · rw [if_pos he] at h ⊢
    rw [if_pos he]
    by_cases hl : s.b.length < n
    · rw [if_pos hl] at h
      exact absurd (show (10 : Int) = 0 from h) (by decide)
    · rw [if_neg hl, if_neg hl]
      exact ⟨he, List.take_append_drop n s.b, by rw [List.length_take]; omega⟩
  · rw [if_neg he] at h
    exact absurd h he
theorem byN_of (c : UInt8) (x : Nat) : byN (x * 256 + c.toNat) = c := by
  apply UInt8.toNat_inj.1
  rw [byN_toNat]
  have := c.toNat_lt
  omega
theorem numL_fold : ∀ (k : Nat) (l : List UInt8), l.length = k → numL (foldV l) k = l
  | 0, l, h => by rw [List.length_eq_zero_iff.1 h]; rfl
  | k + 1, l, h => by
    have hne : l ≠ [] := fun e => by rw [e] at h; cases h
    obtain ⟨m, c, rfl⟩ : ∃ m c, l = m ++ [c] := ⟨l.dropLast, l.getLast hne, (List.dropLast_concat_getLast hne).symm⟩
    have hm : m.length = k := by simpa using h
    have hc := c.toNat_lt
    rw [foldV_snoc, numL_succ, byN_of, show (foldV m * 256 + c.toNat) / 256 = foldV m by omega, numL_fold k m hm]
theorem num_good {s : RS} {n : Int} {k : Nat} (hm : mayB n = true) (hk : n.toNat = k) (h : (numS s n).e = 0) : s.e = 0 ∧ numL (numV s n) k ++ (numS s n).b = s.b := by
  unfold numS numV at *
  rw [if_pos hm] at h ⊢
  rw [if_pos hm]
  rw [hk] at h ⊢
  obtain ⟨h1, h2, h3⟩ := take_good h
  refine ⟨h1, ?_⟩
  rw [numL_fold k _ h3]
  exact h2
theorem num1_good {s : RS} (h : (numS s 1).e = 0) : s.e = 0 ∧ numL (numV s 1) 1 ++ (numS s 1).b = s.b := num_good (by decide) rfl h
theorem num8_good {s : RS} (h : (numS s 8).e = 0) : s.e = 0 ∧ numL (numV s 8) 8 ++ (numS s 8).b = s.b := num_good (by decide) rfl h
theorem hash_good {s : RS} (h : (takeS s 32).e = 0) : s.e = 0 ∧ hashV s ++ (takeS s 32).b = s.b := by
  obtain ⟨h1, h2, h3⟩ := take_good h
  unfold hashV
  rw [if_pos h3]
  exact ⟨h1, h2⟩
theorem kStep_good {s : RS} (h : (kStep s).e = 0) : s.e = 0 ∧ keyB (kOne s) ++ (kStep s).b = s.b := by
  unfold kStep at *
  obtain ⟨h1, h2⟩ := hash_good h
  obtain ⟨h3, h4⟩ := num8_good h1
  refine ⟨h3, ?_⟩
  unfold keyB kOne
  rw [List.append_assoc, h2, h4]
theorem keysB_app (a b : List Key) : keysB (a ++ b) = keysB a ++ keysB b := by simp [keysB]
theorem keysB_one (k : Key) : keysB [k] = keyB k := by simp [keysB]
theorem kRun_good {s : RS} : ∀ n, (kRun n s).e = 0 → s.e = 0 ∧ keysB (kList n s) ++ (kRun n s).b = s.b
  | 0, h => ⟨h, rfl⟩
  | n + 1, h => by
    unfold kRun at h ⊢
    unfold kList
    obtain ⟨h1, h2⟩ := kStep_good h
    obtain ⟨h3, h4⟩ := kRun_good n h1
    refine ⟨h3, ?_⟩
    rw [keysB_app, keysB_one, List.append_assoc, h2, h4]
theorem hRun_good {s : RS} : ∀ n, (hRun n s).e = 0 → s.e = 0 ∧ (hList n s).flatten ++ (hRun n s).b = s.b
  | 0, h => ⟨h, rfl⟩
  | n + 1, h => by
    unfold hRun at h ⊢
    unfold hList
    obtain ⟨h1, h2⟩ := hash_good h
    obtain ⟨h3, h4⟩ := hRun_good n h1
    refine ⟨h3, ?_⟩
    rw [List.flatten_append, List.append_assoc]
    simp only [List.flatten_cons, List.flatten_nil, List.append_nil]
    rw [h2, h4]
theorem count_good {s : RS} (h : countE s = 0) : (numS s 1).e = 0 ∧ countV s = numV s 1 ∧ numV s 1 ≤ 32 := by
  unfold countE at h
  unfold countV
  by_cases he : (numS s 1).e ≠ 0
  · rw [if_pos he] at h
    exact absurd h he
  · rw [if_neg he] at h
    by_cases hn : 32 < numV s 1
    · rw [if_pos hn] at h
      exact absurd h (by decide)
    · rw [if_neg he, if_neg hn]
      exact ⟨Classical.not_not.1 he, rfl, by omega⟩
theorem end_good {s : RS} (h : endE s = 0) : s.e = 0 ∧ s.b = [] := by
  unfold endE at h
  by_cases he : s.e ≠ 0
  · rw [if_pos he] at h
    exact absurd h he
  · rw [if_neg he] at h
    by_cases hb : s.b.length = 0
    · exact ⟨Classical.not_not.1 he, List.length_eq_zero_iff.1 hb⟩
    · rw [if_neg hb] at h
      exact absurd h (by decide)
/-- What is got is put as the same bytes. -/
theorem put_get {b : List UInt8} (h : (getOut b).1 = 0) : putB (getOut b).2.1 (getOut b).2.2 = b ∧ (getOut b).2.1.length ≤ 32 ∧ (getOut b).2.2.length ≤ 32 := by
  unfold getOut at *
  by_cases h1 : countE ⟨b, 0⟩ ≠ 0
  · rw [if_pos h1] at h
    exact absurd h h1
  · rw [if_neg h1] at h ⊢
    by_cases h2 : countE (kRun (countV ⟨b, 0⟩) (numS ⟨b, 0⟩ 1)) ≠ 0
    · rw [if_pos h2] at h
      exact absurd h h2
    · rw [if_neg h2] at h ⊢
      by_cases h3 : endE (hRun (countV (kRun (countV ⟨b, 0⟩) (numS ⟨b, 0⟩ 1))) (numS (kRun (countV ⟨b, 0⟩) (numS ⟨b, 0⟩ 1)) 1)) ≠ 0
      · rw [if_pos h3] at h
        exact absurd h h3
      · rw [if_neg h3]
        have h1 := Classical.not_not.1 h1
        have h2 := Classical.not_not.1 h2
        have h3 := Classical.not_not.1 h3
        obtain ⟨a1, a2, a3⟩ := count_good h1
        obtain ⟨b1, b2, b3⟩ := count_good h2
        rw [b2] at h3
        rw [b2]
        rw [a2] at h3 b1 b3
        rw [a2]
        obtain ⟨c1, c2⟩ := end_good h3
        obtain ⟨d1, d2⟩ := hRun_good _ c1
        rw [c2, List.append_nil] at d2
        obtain ⟨e1, e2⟩ := num1_good b1
        obtain ⟨f1, f2⟩ := kRun_good _ e1
        obtain ⟨g1, g2⟩ := num1_good a1
        refine ⟨?_, by rw [kList_len]; exact a3, by rw [hList_len]; exact b3⟩
        unfold putB
        rw [kList_len, hList_len, d2, List.append_assoc, List.append_assoc, e2, f2, g2]
end Go.Proofs.Ythbmmilefimpaaa
