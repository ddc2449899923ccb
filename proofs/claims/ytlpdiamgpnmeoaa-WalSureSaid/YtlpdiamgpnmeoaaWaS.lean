
/- Records, plain: supers, and the records of bytes. -/
import Derived.Test.YtlpdiamgpnmeoaaWaR
namespace Go.Proofs.Ytlpdiamgpnmeoaa
open Go.RowKit
set_option linter.unusedVariables false
theorem numL_succ (x k : Nat) : numL x (k + 1) = numL (x / 256) k ++ [byN x] := by
  unfold numL
  rw [List.range_succ, List.map_append]
  congr 1
  · apply List.map_congr_left
    intro i hi
    have hik : i < k := List.mem_range.1 hi
    congr 1
    rw [Nat.div_div_eq_div_mul]
    congr 1
    rw [show 8 * (k + 1 - 1 - i) = 8 + 8 * (k - 1 - i) from by omega, Nat.pow_add]
  · simp
theorem foldV_num : ∀ (k x : Nat), foldV (numL x k) = x % 256 ^ k
  | 0, x => by simp [numL, foldV, Nat.mod_one]
  | k + 1, x => by
    rw [numL_succ, foldV_snoc, foldV_num k (x / 256), byN_toNat, Nat.pow_succ, Nat.mul_comm (256 ^ k) 256, Nat.mod_mul]
    omega
theorem numW8 (x : Nat) : numW x 8 = numL x 8 := by unfold numW; rw [if_pos (by decide)]; rfl
theorem numW4 (x : Nat) : numW x 4 = numL x 4 := by unfold numW; rw [if_pos (by decide)]; rfl
theorem numW1 (x : Nat) : numW x 1 = numL x 1 := by unfold numW; rw [if_pos (by decide)]; rfl
theorem num8_small {x : Nat} (h : x < 256) : numW x 8 = zer 7 ++ [byN x] := by
  rw [numW8, numL_succ, show x / 256 = 0 by omega]
  rfl
/-! ### A super's parts -/
theorem super_take8 (T a t : Nat) : (superL T a t).take 8 = numW T 8 := by
  unfold superL
  rw [List.append_assoc, List.append_assoc, List.append_assoc]
  exact List.take_left' (num8 T)
theorem super_drop8 (T a t : Nat) : (superL T a t).drop 8 = numW a 1 ++ (numW t 4 ++ (zer 235 ++ numW T 8)) := by
  unfold superL
  rw [List.append_assoc, List.append_assoc, List.append_assoc]
  exact List.drop_left' (num8 T)
theorem super_a (T a t : Nat) : ((superL T a t).drop 8).take 1 = numW a 1 := by
  rw [super_drop8]
  exact List.take_left' (num1 a)
theorem super_drop9 (T a t : Nat) : (superL T a t).drop 9 = numW t 4 ++ (zer 235 ++ numW T 8) := by
  rw [show 9 = 8 + 1 from rfl, ← List.drop_drop, super_drop8]
  exact List.drop_left' (num1 a)
theorem super_t (T a t : Nat) : ((superL T a t).drop 9).take 4 = numW t 4 := by
  rw [super_drop9]
  exact List.take_left' (num4 t)
theorem super_last (T a t : Nat) : (superL T a t).drop 248 = numW T 8 := by
  rw [show 248 = 9 + (4 + 235) from rfl, ← List.drop_drop, super_drop9, ← List.drop_drop, List.drop_left' (num4 t)]
  exact List.drop_left' (zer_len 235)
theorem tOf_super {T : Nat} (h : T < 18446744073709551616) (a t : Nat) : tOf (superL T a t) = T := by
  unfold tOf
  rw [super_take8, numW8, foldV_num]
  exact Nat.mod_eq_of_lt h
theorem aOf_super {a : Nat} (h : a < 256) (T t : Nat) : aOf (superL T a t) = a := by
  unfold aOf
  rw [super_a, numW1, foldV_num]
  exact Nat.mod_eq_of_lt h
theorem lOf_super {t : Nat} (h : t < 4294967296) (T a : Nat) : lOf (superL T a t) = t := by
  unfold lOf
  rw [super_t, numW4, foldV_num]
  exact Nat.mod_eq_of_lt h
theorem isS_super {size T a t : Nat} (h0 : 0 < T) (hT : T < 18446744073709551616) (ha : a < 2) (ht : t ≤ size * 256) (hs : size * 256 < 4294967296) : isS size (superL T a t) = true := by
  unfold isS
  rw [tOf_super hT, aOf_super (by omega), lOf_super (by omega), decide_eq_true h0, decide_eq_true ha, decide_eq_true ht]
  simp
theorem superL_zero : superL 0 0 0 = zeros := by
  unfold superL
  rw [numW8, numW1, numW4, show numL 0 8 = zer 8 from rfl, show numL 0 1 = zer 1 from rfl, show numL 0 4 = zer 4 from rfl]
  unfold zeros zer
  rw [List.replicate_append_replicate, List.replicate_append_replicate, List.replicate_append_replicate, List.replicate_append_replicate]
/-- What may lie where the next super comes: none that counts more. -/
def Slot (o : List UInt8) (T : Nat) : Prop := (∀ i, i < 7 → o[i]? = some 0) ∧ (∀ i, 248 ≤ i → i < 255 → o[i]? = some 0) ∧ ∃ x, (x = 0 ∨ x < T) ∧ x < 256 ∧ o[255]? = some (byN x)
theorem zer_get {n i : Nat} (h : i < n) : (zer n)[i]? = some 0 := by
  unfold zer
  rw [List.getElem?_replicate, if_pos h]
theorem super_get7 {T : Nat} (h : T < 256) (a t : Nat) {i : Nat} (hi : i < 7) : (superL T a t)[i]? = some 0 := by
  have h1 : ((superL T a t).take 8)[i]? = some 0 := by
    rw [super_take8, num8_small h, List.getElem?_append_left (by rw [zer_len]; exact hi)]
    exact zer_get hi
  rwa [List.getElem?_take, if_pos (by omega)] at h1
theorem super_get248 {T : Nat} (h : T < 256) (a t : Nat) {i : Nat} (h1 : 248 ≤ i) (h2 : i < 255) : (superL T a t)[i]? = some 0 := by
  have h3 : ((superL T a t).drop 248)[i - 248]? = some 0 := by
    rw [super_last, num8_small h, List.getElem?_append_left (by rw [zer_len]; omega)]
    exact zer_get (by omega)
  rwa [List.getElem?_drop, show 248 + (i - 248) = i by omega] at h3
theorem super_get255 {T : Nat} (h : T < 256) (a t : Nat) : (superL T a t)[255]? = some (byN T) := by
  have h3 : ((superL T a t).drop 248)[7]? = some (byN T) := by
    rw [super_last, num8_small h, List.getElem?_append_right (by rw [zer_len]; omega), zer_len]
    rfl
  rwa [List.getElem?_drop] at h3
theorem slot_super {T : Nat} (h : T < 256) (a t : Nat) {U : Nat} (hU : T < U ∨ T = 0) : Slot (superL T a t) U :=
  ⟨fun i hi => super_get7 h a t hi, fun i h1 h2 => super_get248 h a t h1 h2, T, by omega, h, super_get255 h a t⟩
theorem slot_zeros (T : Nat) : Slot zeros T := by
  rw [← superL_zero]
  exact slot_super (by decide) 0 0 (.inr rfl)
/-- What counts there counts less. -/
theorem slot_less {o : List UInt8} {T size : Nat} (hl : o.length = 256) (h : Slot o T) (hs : isS size o = true) : tOf o < T := by
  obtain ⟨h1, h2, x, hx, hx2, h3⟩ := h
  obtain ⟨p1, p2, p3, p4⟩ := isS_parts hs
  have hd : o.drop 248 = zer 7 ++ [byN x] := by
    apply List.ext_getElem?
    intro i
    rw [List.getElem?_drop]
    rcases Nat.lt_trichotomy i 7 with hi | hi | hi
    · rw [h2 _ (by omega) (by omega), List.getElem?_append_left (by rw [zer_len]; exact hi), zer_get hi]
    · subst hi
      rw [show 248 + 7 = 255 from rfl, h3, List.getElem?_append_right (by rw [zer_len]; exact Nat.le_refl _), zer_len]
      rfl
    · rw [List.getElem?_eq_none (by omega), List.getElem?_eq_none (by rw [List.length_append, zer_len]; simp; omega)]
  have h4 : foldV (o.drop 248) = tOf o := by
    rw [p4, super_last, numW8, foldV_num, tOf_super (tOf_lt _)]
    exact Nat.mod_eq_of_lt (tOf_lt _)
  have h5 : foldV (zer 7 ++ [byN x]) = x := by
    rw [← num8_small hx2, numW8, foldV_num]
    exact Nat.mod_eq_of_lt (by omega)
  rw [hd, h5] at h4
  omega
theorem mix_get {s o : List UInt8} {n : Nat} (hs : s.length = 256) (ho : o.length = 256) (hn : n ≤ 256) (i : Nat) : (mixB s o n)[i]? = if i < n then s[i]? else o[i]? := by
  unfold mixB
  split
  · rename_i h
    rw [List.getElem?_append_left (by rw [List.length_take]; omega), List.getElem?_take, if_pos h]
  · rename_i h
    rw [List.getElem?_append_right (by rw [List.length_take]; omega), List.length_take, List.getElem?_drop]
    congr 1
    omega
/-- A torn super is the whole one, or counts not more than what lay there. -/
theorem torn_super {o : List UInt8} {T n : Nat} (hl : o.length = 256) (h : Slot o T) (hT : T + 1 < 256) (hn : n ≤ 256) (a t : Nat) : mixB (superL (T + 1) a t) o n = superL (T + 1) a t ∨ Slot (mixB (superL (T + 1) a t) o n) T := by
  by_cases hn2 : n = 256
  · left
    unfold mixB
    rw [hn2, List.take_of_length_le (by rw [superL_256]; exact Nat.le_refl _), List.drop_eq_nil_of_le (by omega), List.append_nil]
  · right
    obtain ⟨h1, h2, x, hx, hx2, h3⟩ := h
    refine ⟨fun i hi => ?_, fun i q1 q2 => ?_, x, hx, hx2, ?_⟩
    · rw [mix_get (superL_256 _ _ _) hl hn]
      split
      · exact super_get7 hT a t hi
      · exact h1 i hi
    · rw [mix_get (superL_256 _ _ _) hl hn]
      split
      · exact super_get248 hT a t q1 q2
      · exact h2 i q1 q2
    · rw [mix_get (superL_256 _ _ _) hl hn, if_neg (by omega)]
      exact h3
/-! ### The records of bytes -/
theorem framesL_framL : ∀ (rs : List (List UInt8)), (∀ r ∈ rs, r.length ≤ 16384) → framesL (framL rs) = (rs, 0)
  | [], _ => framesL_nil
  | r :: rs, h => by
    have hr := h r (by simp)
    have ih := framesL_framL rs (fun x hx => h x (by simp [hx]))
    have e : framL (r :: rs) = numW r.length 4 ++ (numW (crc r) 4 ++ (r ++ framL rs)) := by
      show frameL r ++ framL rs = _
      unfold frameL
      rw [List.append_assoc, List.append_assoc]
    have hl : (framL (r :: rs)).length = 8 + r.length + (framL rs).length := by
      rw [e]
      simp only [List.length_append, num4]
      omega
    have hn : nOf (framL (r :: rs)) = r.length := by
      unfold nOf
      rw [e, List.take_left' (num4 _), numW4, foldV_num]
      exact Nat.mod_eq_of_lt (by omega)
    have h4 : (framL (r :: rs)).drop 4 = numW (crc r) 4 ++ (r ++ framL rs) := by
      rw [e]
      exact List.drop_left' (num4 _)
    have h8 : (framL (r :: rs)).drop 8 = r ++ framL rs := by
      rw [show 8 = 4 + 4 from rfl, ← List.drop_drop, h4]
      exact List.drop_left' (num4 _)
    have hs : sOf (framL (r :: rs)) = crc r := by
      unfold sOf
      rw [h4, List.take_left' (num4 _), numW4, foldV_num]
      exact Nat.mod_eq_of_lt (crc_lt r)
    have hb : recB (framL (r :: rs)) = r := by
      unfold recB
      rw [h8, hn]
      exact List.take_left' rfl
    have hd : (framL (r :: rs)).drop (8 + r.length) = framL rs := by
      rw [← List.drop_drop, h8]
      exact List.drop_left' rfl
    rw [framesL_go (by omega) (by unfold badB; rw [hn]; omega) (by rw [hb, hs]), hn, hd, ih, hb]
    rfl
end Go.Proofs.Ytlpdiamgpnmeoaa
