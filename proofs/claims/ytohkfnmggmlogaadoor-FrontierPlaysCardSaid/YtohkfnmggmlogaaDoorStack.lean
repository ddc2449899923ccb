
/- A tree from below: a stack of whole parts, the last one first. -/
import Derived.Test.YtohkfnmggmlogaaDoorTree
namespace Go.Proofs.YtohkfnmggmlogaaDoor
set_option linter.unusedVariables false
/-- One part more: of one size with the last one they are one part. -/
def ins (s : Nat) (h : List UInt8) : List (Nat × List UInt8) → List (Nat × List UInt8)
  | [] => [(s, h)]
  | (s', h') :: r => if s = s' then ins (2 * s) (nodeL h' h) r else (s, h) :: (s', h') :: r
/-- The stack's parts are those of these entries. -/
inductive Good : List (List UInt8) → List (Nat × List UInt8) → Prop
  | nil : Good [] []
  | cons {front part : List (List UInt8)} {st : List (Nat × List UInt8)} (j : Nat) (h : Good front st) (hl : part.length = 2 ^ j) (hd : 2 ^ (j + 1) ∣ front.length) : Good (front ++ part) ((2 ^ j, treeR part) :: st)
theorem pow_dvd {i j : Nat} (h : i ≤ j) : 2 ^ i ∣ 2 ^ j := Nat.pow_dvd_pow 2 h
theorem pow_inj {i j : Nat} (h : 2 ^ i = 2 ^ j) : i = j := by
  rcases Nat.lt_trichotomy i j with h1 | h1 | h1
  · have := (Nat.pow_lt_pow_iff_right (by decide : 1 < 2)).2 h1; omega
  · exact h1
  · have := (Nat.pow_lt_pow_iff_right (by decide : 1 < 2)).2 h1; omega
/-- 2^j divides q + 2^i, where 2^(i+1) divides q: j is i at most. -/
theorem dvd_le {i j q : Nat} (hq : 2 ^ (i + 1) ∣ q) (h : 2 ^ j ∣ q + 2 ^ i) : j ≤ i := by
  rcases Nat.lt_or_ge i j with h1 | h1
  · have h2 : 2 ^ (i + 1) ∣ q + 2 ^ i := Nat.dvd_trans (pow_dvd (by omega)) h
    have h3 : 2 ^ (i + 1) ∣ 2 ^ i := (Nat.dvd_add_right hq).1 h2
    have h4 := Nat.le_of_dvd (pow_one_le i) h3
    rw [pow_succ2] at h4
    have := pow_one_le i
    omega
  · exact h1
theorem ins_good {front : List (List UInt8)} {st : List (Nat × List UInt8)} (hg : Good front st) : ∀ (part : List (List UInt8)) (j : Nat), part.length = 2 ^ j → 2 ^ j ∣ front.length → Good (front ++ part) (ins (2 ^ j) (treeR part) st) := by
  induction hg with
  | nil =>
    intro part j hl hd
    exact Good.cons (front := []) j .nil hl (Nat.dvd_zero _)
  | @cons front' part' st' i hg' hl' hd' ih =>
    intro part j hl hd
    rw [List.length_append, hl'] at hd
    have hji := dvd_le hd' hd
    unfold ins
    by_cases he : 2 ^ j = 2 ^ i
    · rw [if_pos he]
      have := pow_inj he
      subst this
      have hp := pow_one_le j
      rw [← treeR_join (a := part') (b := part) hl' (by omega) (by omega), ← pow_succ2, List.append_assoc]
      exact ih (part' ++ part) (j + 1) (by rw [List.length_append, hl, hl', pow_succ2]; omega) hd'
    · rw [if_neg he]
      have hlt : j < i := by
        rcases Nat.lt_or_ge j i with h | h
        · exact h
        · exact absurd (by rw [show j = i by omega]) he
      refine Good.cons j (Good.cons i hg' hl' hd') hl ?_
      rw [List.length_append, hl']
      exact Nat.dvd_add (Nat.dvd_trans (pow_dvd (by omega)) hd') (pow_dvd hlt)
theorem good_snoc {ls : List (List UInt8)} {st : List (Nat × List UInt8)} (h : Good ls st) (b : List UInt8) : Good (ls ++ [b]) (ins 1 (leafL b) st) := by
  have := ins_good h [b] 0 rfl (Nat.one_dvd _)
  rw [treeR_one] at this
  exact this
def rootS : List (Nat × List UInt8) → List UInt8
  | [] => shaL []
  | p :: r => r.foldl (fun x q => nodeL q.2 x) p.2
theorem good_fold {front : List (List UInt8)} {st : List (Nat × List UInt8)} (hg : Good front st) : ∀ (suf : List (List UInt8)) (i : Nat), 1 ≤ suf.length → suf.length ≤ 2 ^ i → 2 ^ i ∣ front.length →
    st.foldl (fun x q => nodeL q.2 x) (treeR suf) = treeR (front ++ suf) := by
  induction hg with
  | nil => intro suf i _ _ _; rfl
  | @cons front' part' st' k hg' hl' hd' ih =>
    intro suf i h1 h2 h3
    rw [List.length_append, hl'] at h3
    have hik := dvd_le hd' h3
    have hp : 2 ^ i ≤ 2 ^ k := Nat.pow_le_pow_right (by decide) hik
    rw [List.foldl_cons]
    show st'.foldl _ (nodeL (treeR part') (treeR suf)) = _
    rw [← treeR_join (a := part') (b := suf) hl' h1 (by omega), List.append_assoc]
    exact ih (part' ++ suf) (k + 1) (by rw [List.length_append]; omega) (by rw [List.length_append, hl', pow_succ2]; omega) hd'
theorem good_root {ls : List (List UInt8)} {st : List (Nat × List UInt8)} (hg : Good ls st) : rootS st = treeR ls := by
  cases hg with
  | nil => exact treeR_nil.symm
  | @cons front part st j h hl hd =>
    have hp := pow_one_le j
    exact good_fold h part (j + 1) (by omega) (by rw [pow_succ2]; omega) hd
/-- The stack of entries. -/
def stk (ls : List (List UInt8)) : List (Nat × List UInt8) := ls.foldl (fun st b => ins 1 (leafL b) st) []
theorem stk_snoc (ls : List (List UInt8)) (b : List UInt8) : stk (ls ++ [b]) = ins 1 (leafL b) (stk ls) := by
  unfold stk
  rw [List.foldl_append]
  rfl
theorem stk_good (ls : List (List UInt8)) : Good ls (stk ls) := by
  have key : ∀ (rest pre : List (List UInt8)) (st : List (Nat × List UInt8)), Good pre st → Good (pre ++ rest) (rest.foldl (fun st b => ins 1 (leafL b) st) st) := by
    intro rest
    induction rest with
    | nil => intro pre st h; rw [List.append_nil]; exact h
    | cons b r ih =>
      intro pre st h
      have := ih (pre ++ [b]) _ (good_snoc h b)
      rw [List.append_assoc] at this
      exact this
  exact key ls [] [] .nil
theorem stk_root (ls : List (List UInt8)) : rootS (stk ls) = treeR ls := good_root (stk_good ls)
theorem ins_len (h : List UInt8) : ∀ (st : List (Nat × List UInt8)) (s : Nat) (h : List UInt8), (ins s h st).length ≤ st.length + 1 ∧ 1 ≤ (ins s h st).length := by
  intro st
  induction st with
  | nil => intro s h; exact ⟨Nat.le_refl _, Nat.le_refl _⟩
  | cons p r ih =>
    intro s h
    obtain ⟨s', h'⟩ := p
    unfold ins
    split
    · have := ih (2 * s) (nodeL h' h)
      simp only [List.length_cons]
      omega
    · simp only [List.length_cons]
      omega
theorem ins_ok : ∀ (st : List (Nat × List UInt8)) (s : Nat) (h : List UInt8), h.length = 32 → (∀ p ∈ st, p.2.length = 32) → ∀ p ∈ ins s h st, p.2.length = 32 := by
  intro st
  induction st with
  | nil => intro s h hl _ p hp; simp [ins] at hp; subst hp; exact hl
  | cons q r ih =>
    intro s h hl hok
    obtain ⟨s', h'⟩ := q
    unfold ins
    split
    · exact ih _ _ (nodeL_len _ _) fun p hp => hok p (List.mem_cons_of_mem _ hp)
    · intro p hp
      rcases List.mem_cons.1 hp with rfl | hp
      · exact hl
      · exact hok p hp
end Go.Proofs.YtohkfnmggmlogaaDoor
