
/- Trees: roots, proofs, paths, in plain lists. -/
import Derived.Test.YtgaefejblmnklaaDoorChN
import Derived.Test.YtgaefejblmnklaaDoorShaMath
namespace Go.Proofs.YtgaefejblmnklaaDoor
set_option linter.unusedVariables false
def leafL (b : List UInt8) : List UInt8 := shaL (0 :: b)
def nodeL (a b : List UInt8) : List UInt8 := shaL (1 :: (a ++ b))
/-- The root of entries. -/
def treeR (ls : List (List UInt8)) : List UInt8 :=
  if ls.length = 0 then shaL [] else if ls.length = 1 then leafL (ls.getD 0 []) else nodeL (treeR (ls.take (splitN ls.length))) (treeR (ls.drop (splitN ls.length)))
termination_by ls.length
decreasing_by
  · have := split_lt (n := ls.length) (by omega)
    rw [List.length_take]
    omega
  · have := split_pos (n := ls.length) (by omega)
    rw [List.length_drop]
    omega
theorem treeR_nil : treeR [] = shaL [] := by rw [treeR]; rfl
theorem treeR_one (b : List UInt8) : treeR [b] = leafL b := by rw [treeR]; rfl
theorem treeR_more {ls : List (List UInt8)} (h : 2 ≤ ls.length) : treeR ls = nodeL (treeR (ls.take (splitN ls.length))) (treeR (ls.drop (splitN ls.length))) := by
  rw [treeR, if_neg (by omega), if_neg (by omega)]
theorem shaL_len (l : List UInt8) : (shaL l).length = 32 := by simp [shaL, outL]
theorem nodeL_len (a b : List UInt8) : (nodeL a b).length = 32 := shaL_len _
theorem leafL_len (b : List UInt8) : (leafL b).length = 32 := shaL_len _
theorem treeR_len (ls : List (List UInt8)) : (treeR ls).length = 32 := by
  rw [treeR]
  split
  · exact shaL_len _
  · split
    · exact leafL_len _
    · exact nodeL_len _ _
theorem treeR_join {a b : List (List UInt8)} {K : Nat} (ha : a.length = 2 ^ K) (hb : 1 ≤ b.length) (hb2 : b.length ≤ 2 ^ K) : treeR (a ++ b) = nodeL (treeR a) (treeR b) := by
  have hp := pow_one_le K
  have hs : splitN (a ++ b).length = a.length := by
    rw [List.length_append, ha]
    exact split_eq (by omega) (by rw [pow_succ2]; omega)
  rw [treeR_more (by rw [List.length_append]; omega), hs, List.take_left, List.drop_left]
/-- What proves that entries go on from the first m. -/
def prf (ls : List (List UInt8)) (m : Nat) (whole : Bool) : List (List UInt8) :=
  if h : 1 ≤ m ∧ m < ls.length then
    (if m ≤ splitN ls.length then prf (ls.take (splitN ls.length)) m whole ++ [treeR (ls.drop (splitN ls.length))]
    else prf (ls.drop (splitN ls.length)) (m - splitN ls.length) false ++ [treeR (ls.take (splitN ls.length))])
  else if whole then [] else [treeR ls]
termination_by ls.length
decreasing_by
  · have := split_lt (n := ls.length) (by omega)
    rw [List.length_take]
    omega
  · have := split_pos (n := ls.length) (by omega)
    rw [List.length_drop]
    omega
theorem prf_end {ls : List (List UInt8)} {m : Nat} (w : Bool) (h : ¬ (1 ≤ m ∧ m < ls.length)) : prf ls m w = if w then [] else [treeR ls] := by rw [prf, dif_neg h]
theorem prf_left {ls : List (List UInt8)} {m : Nat} (w : Bool) (h1 : 1 ≤ m) (h2 : m < ls.length) (h : m ≤ splitN ls.length) : prf ls m w = prf (ls.take (splitN ls.length)) m w ++ [treeR (ls.drop (splitN ls.length))] := by
  rw [prf, dif_pos ⟨h1, h2⟩, if_pos h]
theorem prf_right {ls : List (List UInt8)} {m : Nat} (w : Bool) (h1 : 1 ≤ m) (h2 : m < ls.length) (h : ¬ m ≤ splitN ls.length) : prf ls m w = prf (ls.drop (splitN ls.length)) (m - splitN ls.length) false ++ [treeR (ls.take (splitN ls.length))] := by
  rw [prf, dif_pos ⟨h1, h2⟩, if_neg h]
/-- The path to entry i. -/
def pth (ls : List (List UInt8)) (i : Nat) : List (List UInt8) :=
  if h : 2 ≤ ls.length then
    (if i < splitN ls.length then pth (ls.take (splitN ls.length)) i ++ [treeR (ls.drop (splitN ls.length))]
    else pth (ls.drop (splitN ls.length)) (i - splitN ls.length) ++ [treeR (ls.take (splitN ls.length))])
  else []
termination_by ls.length
decreasing_by
  · have := split_lt (n := ls.length) (by omega)
    rw [List.length_take]
    omega
  · have := split_pos (n := ls.length) (by omega)
    rw [List.length_drop]
    omega
theorem pth_end {ls : List (List UInt8)} {i : Nat} (h : ¬ 2 ≤ ls.length) : pth ls i = [] := by rw [pth, dif_neg h]
theorem pth_left {ls : List (List UInt8)} {i : Nat} (h2 : 2 ≤ ls.length) (h : i < splitN ls.length) : pth ls i = pth (ls.take (splitN ls.length)) i ++ [treeR (ls.drop (splitN ls.length))] := by
  rw [pth, dif_pos h2, if_pos h]
theorem pth_right {ls : List (List UInt8)} {i : Nat} (h2 : 2 ≤ ls.length) (h : ¬ i < splitN ls.length) : pth ls i = pth (ls.drop (splitN ls.length)) (i - splitN ls.length) ++ [treeR (ls.take (splitN ls.length))] := by
  rw [pth, dif_pos h2, if_neg h]
theorem len_take_split {ls : List (List UInt8)} : (ls.take (splitN ls.length)).length = splitN ls.length := by
  rw [List.length_take]
  exact Nat.min_eq_left (split_le _)
/-- A proof has as many hashes as steps, and one if the whole isn't known. -/
theorem prf_len : ∀ (n : Nat) (ls : List (List UInt8)) (m : Nat) (w : Bool), ls.length = n → (prf ls m w).length = (steps m n).length + if w && wholeN m n then 0 else 1 := by
  intro n
  induction n using Nat.strongRecOn with
  | ind n ih =>
    intro ls m w hn
    by_cases h : 1 ≤ m ∧ m < n
    · have hlt := split_lt (n := n) (by omega)
      have hpos := split_pos (n := n) (by omega)
      by_cases hle : m ≤ splitN n
      · rw [prf_left w h.1 (by omega) (by rw [hn]; exact hle), List.length_append, ih (splitN n) hlt _ m w (by rw [len_take_split, hn]), steps_true h.1 h.2 hle, whole_true h.1 h.2 hle]
        simp only [List.length_cons, List.length_nil]
        omega
      · rw [prf_right w h.1 (by omega) (by rw [hn]; exact hle), List.length_append, ih (n - splitN n) (by omega) _ (m - splitN ls.length) false (by rw [List.length_drop, hn]), steps_false h.1 h.2 hle, whole_false h.1 h.2 hle, hn]
        simp only [List.length_cons, List.length_nil, Bool.false_and, Bool.and_false]
        omega
    · rw [prf_end w (by rw [hn]; exact h), steps_no h, whole_no h]
      cases w <;> rfl
theorem prf_long {ls : List (List UInt8)} {m : Nat} (h1 : 1 ≤ m) (h2 : m ≤ ls.length) : (prf ls m true).length = longN m ls.length := by
  rw [prf_len _ ls m true rfl, longN_eq h1 h2, Bool.true_and]
theorem prf_ok : ∀ (n : Nat) (ls : List (List UInt8)) (m : Nat) (w : Bool), ls.length = n → ∀ x ∈ prf ls m w, x.length = 32 := by
  intro n
  induction n using Nat.strongRecOn with
  | ind n ih =>
    intro ls m w hn
    by_cases h : 1 ≤ m ∧ m < n
    · have hlt := split_lt (n := n) (by omega)
      have hpos := split_pos (n := n) (by omega)
      intro x hx
      by_cases hle : m ≤ splitN n
      · rw [prf_left w h.1 (by omega) (by rw [hn]; exact hle)] at hx
        rcases List.mem_append.1 hx with hx | hx
        · exact ih (splitN n) hlt _ m w (by rw [len_take_split, hn]) x hx
        · simp at hx; subst hx; exact treeR_len _
      · rw [prf_right w h.1 (by omega) (by rw [hn]; exact hle)] at hx
        rcases List.mem_append.1 hx with hx | hx
        · exact ih (n - splitN n) (by omega) _ _ false (by rw [List.length_drop, hn]) x hx
        · simp at hx; subst hx; exact treeR_len _
    · intro x hx
      rw [prf_end w (by rw [hn]; exact h)] at hx
      cases w
      · simp at hx; subst hx; exact treeR_len _
      · simp at hx
/-- From the first entry on the proof is the path. -/
theorem prf_pth : ∀ (n : Nat) (ls : List (List UInt8)), ls.length = n → 1 ≤ n → prf ls 1 true = pth ls 0 := by
  intro n
  induction n using Nat.strongRecOn with
  | ind n ih =>
    intro ls hn h1
    by_cases h : 2 ≤ n
    · have hlt := split_lt (n := n) h
      have hpos := split_pos (n := n) h
      rw [prf_left true (Nat.le_refl 1) (by omega) (by rw [hn]; exact hpos), pth_left (by omega) (by rw [hn]; omega), ih (splitN n) hlt _ (by rw [len_take_split, hn]) hpos]
    · rw [prf_end true (by omega), pth_end (by omega)]
      rfl
/-! ### The two roots that a proof makes -/
/-- One hash more: on the right (true), or on the left. -/
def mstep (s : List UInt8 × List UInt8) (x : Bool × List UInt8) : List UInt8 × List UInt8 := if x.1 then (s.1, nodeL s.2 x.2) else (nodeL x.2 s.1, nodeL x.2 s.2)
def mfold (x : List UInt8) (ds : List Bool) (path : List (List UInt8)) : List UInt8 × List UInt8 := (ds.zip path).foldl mstep (x, x)
def madeL (m n : Nat) (old : List UInt8) (path : List (List UInt8)) : List UInt8 × List UInt8 :=
  if wholeN m n then mfold old (steps m n).reverse path else mfold (path.getD 0 []) (steps m n).reverse (path.drop 1)
theorem mfold_snoc (x : List UInt8) (ds : List Bool) (path : List (List UInt8)) (d : Bool) (h : List UInt8) (hl : ds.length = path.length) : mfold x (ds ++ [d]) (path ++ [h]) = mstep (mfold x ds path) (d, h) := by
  unfold mfold
  rw [List.zip_append hl, List.foldl_append]
  rfl
/-- The two roots that a proof makes are the roots. -/
theorem prf_made : ∀ (n : Nat) (ls : List (List UInt8)) (m : Nat) (w : Bool), ls.length = n → 1 ≤ m → m ≤ n →
    (if w && wholeN m n then mfold (treeR (ls.take m)) (steps m n).reverse (prf ls m w) else mfold ((prf ls m w).getD 0 []) (steps m n).reverse ((prf ls m w).drop 1)) = (treeR (ls.take m), treeR ls) := by
  intro n
  induction n using Nat.strongRecOn with
  | ind n ih =>
    intro ls m w hn h1 h2
    rcases Nat.lt_or_ge m n with hlt | hge
    · have hs := split_lt (n := n) (by omega)
      have hpos := split_pos (n := n) (by omega)
      obtain ⟨K, hK, hK1, hK2⟩ := split_pow (n := n) (by omega)
      have hj : nodeL (treeR (ls.take (splitN n))) (treeR (ls.drop (splitN n))) = treeR ls := by
        rw [treeR_more (ls := ls) (by omega), hn]
      by_cases hle : m ≤ splitN n
      · have hp := prf_left (ls := ls) w h1 (by omega) (by rw [hn]; exact hle)
        have i1 := ih (splitN n) hs (ls.take (splitN n)) m w (by rw [List.length_take]; omega) h1 hle
        have ht : (ls.take (splitN n)).take m = ls.take m := by rw [List.take_take, Nat.min_eq_left hle]
        have hl := prf_len (splitN n) (ls.take (splitN n)) m w (by rw [List.length_take]; omega)
        rw [ht] at i1
        rw [steps_true h1 hlt hle, List.reverse_cons, whole_true h1 hlt hle, hp, hn]
        cases hw : (w && wholeN m (splitN n)) with
        | true =>
          rw [hw] at i1 hl
          rw [if_pos rfl] at i1 hl ⊢
          rw [mfold_snoc _ _ _ _ _ (by rw [List.length_reverse, hl]; rfl), i1]
          show (treeR (ls.take m), nodeL _ _) = _
          rw [hj]
        | false =>
          rw [hw] at i1 hl
          rw [if_neg (by simp)] at i1 hl ⊢
          have hne : prf (ls.take (splitN n)) m w ≠ [] := by
            intro h0
            rw [h0] at hl
            simp at hl
          obtain ⟨x, r, hr⟩ := List.exists_cons_of_ne_nil hne
          rw [hr] at i1 hl ⊢
          simp only [List.cons_append, List.getD_cons_zero, List.drop_succ_cons, List.drop_zero] at i1 ⊢
          rw [mfold_snoc _ _ _ _ _ (by rw [List.length_reverse]; simp at hl; omega), i1]
          show (treeR (ls.take m), nodeL _ _) = _
          rw [hj]
      · have hp := prf_right (ls := ls) w h1 (by omega) (by rw [hn]; exact hle)
        have i1 := ih (n - splitN n) (by omega) (ls.drop (splitN n)) (m - splitN n) false (by rw [List.length_drop]; omega) (by omega) (by omega)
        have hl := prf_len (n - splitN n) (ls.drop (splitN n)) (m - splitN n) false (by rw [List.length_drop]; omega)
        have hsm : splitN m = splitN n := by rw [hK]; exact split_eq (by omega) (by omega)
        have hm : treeR (ls.take m) = nodeL (treeR (ls.take (splitN n))) (treeR ((ls.drop (splitN n)).take (m - splitN n))) := by
          have hml : (ls.take m).length = m := by rw [List.length_take]; omega
          rw [treeR_more (ls := ls.take m) (by omega), hml, hsm, List.take_take, Nat.min_eq_left (by omega), List.drop_take]
        rw [Bool.false_and, if_neg (by simp)] at i1
        rw [Bool.false_and, if_neg (by simp)] at hl
        rw [steps_false h1 hlt hle, List.reverse_cons, whole_false h1 hlt hle, Bool.and_false, if_neg (by simp), hp, hn]
        have hne : prf (ls.drop (splitN n)) (m - splitN n) false ≠ [] := by
          intro h0
          rw [h0] at hl
          simp at hl
        obtain ⟨x, r, hr⟩ := List.exists_cons_of_ne_nil hne
        rw [hr] at i1 hl ⊢
        simp only [List.cons_append, List.getD_cons_zero, List.drop_succ_cons, List.drop_zero] at i1 ⊢
        rw [mfold_snoc _ _ _ _ _ (by rw [List.length_reverse]; simp at hl; omega), i1]
        show (nodeL _ _, nodeL _ _) = _
        rw [hj, hm]
    · have hmn : m = n := by omega
      subst hmn
      rw [steps_no (by omega), whole_no (by omega), prf_end w (by omega), Bool.and_true]
      have ht : ls.take m = ls := List.take_of_length_le (by omega)
      rw [ht]
      cases w <;> rfl
/-- Verify's answer: an error's number. -/
def verL (m n : Nat) (old now : List UInt8) (path : List (List UInt8)) : Int :=
  if m < 1 ∨ n < m then 15 else if path.length = longN m n ∧ madeL m n old path = (old, now) then 0 else 20
theorem made_prf {ls : List (List UInt8)} {m : Nat} (h1 : 1 ≤ m) (h2 : m ≤ ls.length) : madeL m ls.length (treeR (ls.take m)) (prf ls m true) = (treeR (ls.take m), treeR ls) := by
  have := prf_made ls.length ls m true rfl h1 h2
  rw [Bool.true_and] at this
  exact this
/-! ### The walk up goes the same steps -/
/-- Along the places: the two roots, and the last place. -/
def vstep (s : List UInt8 × List UInt8 × Nat × Nat) (h : List UInt8) : List UInt8 × List UInt8 × Nat × Nat :=
  (if (stp s.2.2.1 s.2.2.2).1 then s.1 else nodeL h s.1, if (stp s.2.2.1 s.2.2.2).1 then nodeL s.2.1 h else nodeL h s.2.1, (stp s.2.2.1 s.2.2.2).2.1, (stp s.2.2.1 s.2.2.2).2.2)
theorem runs_len : ∀ (ds : List Bool) (a l : Nat) (k : Nat), Runs ds a l → k < ds.length → True := fun _ _ _ _ _ _ => trivial
/-- Behind k hashes: the places, and what is left to go. -/
theorem runs_walk : ∀ (ds : List Bool) (a l : Nat) (x y : List UInt8) (path : List (List UInt8)), Runs ds a l → ds.length = path.length →
    path.foldl vstep (x, y, a, l) = (((ds.zip path).foldl mstep (x, y)).1, ((ds.zip path).foldl mstep (x, y)).2, 0, 0)
  | [], a, l, x, y, [], h, _ => by
    obtain ⟨rfl, rfl⟩ := h
    rfl
  | [], _, _, _, _, _ :: _, _, hl => by simp at hl
  | _ :: _, _, _, _, _, [], _, hl => by simp at hl
  | d :: ds, a, l, x, y, p :: path, h, hl => by
    obtain ⟨h1, h2, h3⟩ := h
    rw [List.foldl_cons, List.zip_cons_cons, List.foldl_cons]
    have hv : vstep (x, y, a, l) p = ((mstep (x, y) (d, p)).1, (mstep (x, y) (d, p)).2, (stp a l).2.1, (stp a l).2.2) := by
      unfold vstep mstep
      simp only [h2]
      cases d <;> rfl
    rw [hv]
    exact runs_walk ds _ _ _ _ path h3 (by simpa using hl)
/-- The last place is none till the last hash. -/
theorem runs_last : ∀ (ds : List Bool) (a l : Nat) (x y : List UInt8) (path : List (List UInt8)) (k : Nat), Runs ds a l → ds.length = path.length → k < path.length →
    ((path.take k).foldl vstep (x, y, a, l)).2.2.2 ≠ 0
  | [], _, _, _, _, _, _, _, hl, hk => by rw [← hl] at hk; simp at hk
  | _ :: _, _, _, _, _, [], _, _, hl, _ => by simp at hl
  | d :: ds, a, l, x, y, p :: path, 0, h, hl, hk => h.1
  | d :: ds, a, l, x, y, p :: path, k + 1, h, hl, hk => by
    obtain ⟨h1, h2, h3⟩ := h
    rw [List.take_succ_cons, List.foldl_cons]
    exact runs_last ds _ _ _ _ path k h3 (by simpa using hl) (by simpa using hk)
end Go.Proofs.YtgaefejblmnklaaDoor
