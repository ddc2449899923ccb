
/- How many bits are 1: the masks' sum, byte by byte. -/
import Derived.Test.YtohkfnmggmlogaaDoorFrP
namespace Go.Proofs.YtohkfnmggmlogaaDoor
set_option linter.unusedVariables false
def vl : List Nat → Nat
  | [] => 0
  | b :: r => b + 256 * vl r
theorem vl_cons (b : Nat) (r : List Nat) : vl (b :: r) = b + 256 * vl r := rfl
theorem oland_byte {b c : Nat} (y d : Nat) (hb : b < 256) (hc : c < 256) : (b + 256 * y) &&& (c + 256 * d) = (b &&& c) + 256 * (y &&& d) := by
  have h1 := Nat.and_mod_two_pow (a := b + 256 * y) (b := c + 256 * d) (n := 8)
  have h2 := Nat.and_div_two_pow (a := b + 256 * y) (b := c + 256 * d) (n := 8)
  have e : (2 : Nat) ^ 8 = 256 := rfl
  rw [e] at h1 h2
  rw [show (b + 256 * y) % 256 = b by omega, show (c + 256 * d) % 256 = c by omega] at h1
  rw [show (b + 256 * y) / 256 = y by omega, show (c + 256 * d) / 256 = d by omega] at h2
  omega
theorem land_lt {b c : Nat} (hc : c < 256) : b &&& c < 256 := Nat.lt_of_le_of_lt Nat.and_le_right hc
def s1 (b : Nat) : Nat := (b / 2 &&& 85) + (b &&& 85)
def s2 (b : Nat) : Nat := (b / 4 &&& 51) + (b &&& 51)
def s3 (b : Nat) : Nat := (b / 16 + b) &&& 15
set_option maxRecDepth 100000 in
theorem top85 : ∀ a : Fin 128, (a.val + 128) &&& 85 = a.val &&& 85 := by decide
set_option maxRecDepth 100000 in
theorem top51 : ∀ z : Fin 4, ∀ a : Fin 64, (a.val + 64 * z.val) &&& 51 = a.val &&& 51 := by decide
set_option maxRecDepth 100000 in
theorem s12_lt : ∀ b : Fin 256, s1 b.val < 256 ∧ s2 (s1 b.val) < 256 ∧ s2 (s1 b.val) % 16 ≤ 4 ∧ s2 (s1 b.val) / 16 ≤ 4 := by decide
def onesF : Nat → Nat → Nat
  | 0, _ => 0
  | k + 1, n => n % 2 + onesF k (n / 2)
set_option maxRecDepth 100000 in
theorem s123 : ∀ b : Fin 256, s3 (s2 (s1 b.val)) = onesF 8 b.val ∧ onesF 8 b.val ≤ 8 := by decide
theorem onesF_ones : ∀ (k n : Nat), n < 2 ^ k → onesF k n = ones n
  | 0, n, h => by
    have : n = 0 := by simpa using h
    subst this
    rw [ones_zero]; rfl
  | k + 1, n, h => by
    show n % 2 + onesF k (n / 2) = _
    rw [ones_eq n, onesF_ones k _ (by rw [Nat.pow_succ] at h; omega)]
theorem ones_split : ∀ (k b y : Nat), b < 2 ^ k → ones (b + 2 ^ k * y) = ones b + ones y
  | 0, b, y, h => by
    have : b = 0 := by simpa using h
    subst this
    rw [ones_zero]
    simp
  | k + 1, b, y, h => by
    have hp : 2 ^ (k + 1) * y = 2 * (2 ^ k * y) := by rw [Nat.pow_succ, Nat.mul_comm (2 ^ k) 2, Nat.mul_assoc]
    have ih := ones_split k (b / 2) y (by rw [Nat.pow_succ] at h; omega)
    have e1 := ones_eq b
    have e2 := ones_eq (b + 2 ^ (k + 1) * y)
    rw [hp] at e2 ⊢
    rw [show (b + 2 * (2 ^ k * y)) / 2 = b / 2 + 2 ^ k * y by omega, ih] at e2
    omega
def Bs (l : List Nat) : Prop := ∀ b ∈ l, b < 256
theorem ostep1 : ∀ (l : List Nat), Bs l → (vl l / 2 &&& vl (l.map fun _ => 85)) + (vl l &&& vl (l.map fun _ => 85)) = vl (l.map s1)
  | [], _ => rfl
  | b :: r, h => by
    have hb := h b (List.mem_cons_self ..)
    have ih := ostep1 r fun x hx => h x (List.mem_cons_of_mem _ hx)
    simp only [List.map_cons, vl_cons]
    generalize vl r = y at *
    generalize vl (r.map fun _ => 85) = m at *
    rw [show (b + 256 * y) / 2 = (b / 2 + 128 * (y % 2)) + 256 * (y / 2) by omega, oland_byte _ _ (by omega) (by decide), oland_byte _ _ hb (by decide), ← ih]
    have e : (b / 2 + 128 * (y % 2)) &&& 85 = b / 2 &&& 85 := by
      rcases Nat.mod_two_eq_zero_or_one y with h0 | h0
      · rw [h0]; rfl
      · rw [h0]; exact top85 ⟨b / 2, by omega⟩
    rw [e]
    show _ = s1 b + _
    unfold s1
    omega
theorem ostep2 : ∀ (l : List Nat), Bs l → (vl l / 4 &&& vl (l.map fun _ => 51)) + (vl l &&& vl (l.map fun _ => 51)) = vl (l.map s2)
  | [], _ => rfl
  | b :: r, h => by
    have hb := h b (List.mem_cons_self ..)
    have ih := ostep2 r fun x hx => h x (List.mem_cons_of_mem _ hx)
    simp only [List.map_cons, vl_cons]
    generalize vl r = y at *
    generalize vl (r.map fun _ => 51) = m at *
    rw [show (b + 256 * y) / 4 = (b / 4 + 64 * (y % 4)) + 256 * (y / 4) by omega, oland_byte _ _ (by omega) (by decide), oland_byte _ _ hb (by decide), ← ih]
    have e : (b / 4 + 64 * (y % 4)) &&& 51 = b / 4 &&& 51 := top51 ⟨y % 4, by omega⟩ ⟨b / 4, by omega⟩
    rw [e]
    show _ = s2 b + _
    unfold s2
    omega
def Ns (l : List Nat) : Prop := ∀ b ∈ l, b < 256 ∧ b % 16 ≤ 4 ∧ b / 16 ≤ 4
theorem vl_mod : ∀ (l : List Nat), Ns l → vl l % 16 ≤ 4
  | [], _ => by decide
  | b :: r, h => by
    have hb := h b (List.mem_cons_self ..)
    rw [vl_cons]
    omega
theorem ostep3 : ∀ (l : List Nat), Ns l → (vl l / 16 + vl l &&& vl (l.map fun _ => 15)) = vl (l.map s3)
  | [], _ => rfl
  | b :: r, h => by
    have hb := h b (List.mem_cons_self ..)
    have hr : Ns r := fun x hx => h x (List.mem_cons_of_mem _ hx)
    have ih := ostep3 r hr
    have hm := vl_mod r hr
    simp only [List.map_cons, vl_cons]
    generalize vl r = y at *
    generalize vl (r.map fun _ => 15) = m at *
    obtain ⟨q, hq⟩ : ∃ q, q = y % 16 := ⟨_, rfl⟩
    rw [show (b + 256 * y) / 16 + (b + 256 * y) = (b / 16 + b + 16 * q) + 256 * (y / 16 + y) by omega, oland_byte _ _ (by omega) (by decide), ih]
    have e : (b / 16 + b + 16 * q) &&& 15 = s3 b := by
      have e1 := Nat.and_two_pow_sub_one_eq_mod (b / 16 + b + 16 * q) 4
      have e2 := Nat.and_two_pow_sub_one_eq_mod (b / 16 + b) 4
      have k : (2 : Nat) ^ 4 - 1 = 15 := rfl
      rw [k] at e1 e2
      unfold s3
      rw [e1, e2]
      omega
    rw [e]
/-- The eight bytes of a number. -/
def bytes8 (x : Nat) : List Nat := [x % 256, x / 256 % 256, x / 65536 % 256, x / 16777216 % 256, x / 4294967296 % 256, x / 1099511627776 % 256, x / 281474976710656 % 256, x / 72057594037927936]
theorem bytes8_vl (x : Nat) : vl (bytes8 x) = x := by
  simp only [bytes8, vl]
  omega
theorem bytes8_lt {x : Nat} (h : x < 18446744073709551616) : Bs (bytes8 x) := by
  intro b hb
  simp only [bytes8, List.mem_cons, List.not_mem_nil, or_false] at hb
  omega
def oc1 (x : Nat) : Nat := (x / 2 &&& 6148914691236517205) + (x &&& 6148914691236517205)
def oc2 (x : Nat) : Nat := (x / 4 &&& 3689348814741910323) + (x &&& 3689348814741910323)
def oc3 (x : Nat) : Nat := x / 16 + x &&& 1085102592571150095
theorem osh1 {c0 : Nat} (r : List Nat) (h0 : c0 < 256) : vl (c0 :: r) / 256 = vl r := by
  rw [vl_cons]; omega
theorem osh2 {c0 c1 : Nat} (r : List Nat) (h0 : c0 < 256) (h1 : c1 < 256) : vl (c0 :: c1 :: r) / 65536 = vl r := by
  rw [vl_cons, vl_cons]; omega
theorem osh4 {c0 c1 c2 c3 : Nat} (r : List Nat) (h0 : c0 < 256) (h1 : c1 < 256) (h2 : c2 < 256) (h3 : c3 < 256) : vl (c0 :: c1 :: c2 :: c3 :: r) / 4294967296 = vl r := by
  rw [vl_cons, vl_cons, vl_cons, vl_cons]; omega
set_option maxHeartbeats 1000000 in
theorem olt8 (c0 c1 c2 c3 c4 c5 c6 c7 : Nat) (h0 : c0 < 256) (h1 : c1 < 256) (h2 : c2 < 256) (h3 : c3 < 256) (h4 : c4 < 256) (h5 : c5 < 256) (h6 : c6 < 256) (h7 : c7 < 256) : vl [c0, c1, c2, c3, c4, c5, c6, c7] < 18446744073709551616 := by
  simp only [vl]; omega
set_option maxHeartbeats 1000000 in
theorem olt8' (c0 c1 c2 c3 c4 c5 c6 c7 : Nat) (h0 : c0 < 256) (h1 : c1 < 256) (h2 : c2 < 256) (h3 : c3 < 256) (h4 : c4 < 256) (h5 : c5 < 256) (h6 : c6 < 256) (h7 : c7 < 128) : vl [c0, c1, c2, c3, c4, c5, c6, c7] < 9223372036854775808 := by
  simp only [vl]; omega
set_option maxHeartbeats 2000000 in
theorem osum8 (c0 c1 c2 c3 c4 c5 c6 c7 : Nat) (h0 : c0 ≤ 8) (h1 : c1 ≤ 8) (h2 : c2 ≤ 8) (h3 : c3 ≤ 8) (h4 : c4 ≤ 8) (h5 : c5 ≤ 8) (h6 : c6 ≤ 8) (h7 : c7 ≤ 8) (v a b : Nat)
    (hv : v = vl [c0, c1, c2, c3, c4, c5, c6, c7]) (ha : a = v + v / 256) (hb : b = a + a / 65536) : b + b / 4294967296 < 9223372036854775808 ∧ b < 18446744073709551616 ∧ a < 18446744073709551616 ∧ (b + b / 4294967296) % 128 = c0 + c1 + c2 + c3 + c4 + c5 + c6 + c7 := by
  have ha2 : a = vl [c0 + c1, c1 + c2, c2 + c3, c3 + c4, c4 + c5, c5 + c6, c6 + c7, c7] := by
    rw [ha, hv, osh1 _ (by omega)]; simp only [vl]; omega
  have hb2 : b = vl [c0 + c1 + (c2 + c3), c1 + c2 + (c3 + c4), c2 + c3 + (c4 + c5), c3 + c4 + (c5 + c6), c4 + c5 + (c6 + c7), c5 + c6 + c7, c6 + c7, c7] := by
    rw [hb, ha2, osh2 _ (by omega) (by omega)]; simp only [vl]; omega
  have he : b + b / 4294967296 = vl [c0 + c1 + (c2 + c3) + (c4 + c5 + (c6 + c7)), c1 + c2 + (c3 + c4) + (c5 + c6 + c7), c2 + c3 + (c4 + c5) + (c6 + c7), c3 + c4 + (c5 + c6) + c7, c4 + c5 + (c6 + c7), c5 + c6 + c7, c6 + c7, c7] := by
    rw [hb2, osh4 _ (by omega) (by omega) (by omega) (by omega)]; simp only [vl]; omega
  rw [he]
  refine ⟨olt8' _ _ _ _ _ _ _ _ (by omega) (by omega) (by omega) (by omega) (by omega) (by omega) (by omega) (by omega), ?_, ?_, ?_⟩
  · rw [hb2]; exact olt8 _ _ _ _ _ _ _ _ (by omega) (by omega) (by omega) (by omega) (by omega) (by omega) (by omega) (by omega)
  · rw [ha2]; exact olt8 _ _ _ _ _ _ _ _ (by omega) (by omega) (by omega) (by omega) (by omega) (by omega) (by omega) (by omega)
  · rw [vl_cons]
    generalize vl _ = y
    omega
set_option maxRecDepth 10000 in
set_option maxHeartbeats 2000000 in
theorem ones64 {x : Nat} (h : x < 18446744073709551616) : oc1 x < 18446744073709551616 ∧ oc2 (oc1 x) < 18446744073709551616 ∧ oc2 (oc1 x) / 16 + oc2 (oc1 x) < 18446744073709551616 ∧
    (∀ v a b, v = oc3 (oc2 (oc1 x)) → a = v + v / 256 → b = a + a / 65536 → v < 18446744073709551616 ∧ b + b / 4294967296 < 9223372036854775808 ∧ b < 18446744073709551616 ∧ a < 18446744073709551616 ∧ (b + b / 4294967296) % 128 = ones x) := by
  have hb := bytes8_lt h
  have hv := bytes8_vl x
  have hm : ∀ f : Nat → Nat, Bs (bytes8 x) := fun _ => hb
  have k1 := ostep1 _ hb
  have hb1 : Bs ((bytes8 x).map s1) := by
    intro b hb'
    obtain ⟨a, ha, rfl⟩ := List.mem_map.1 hb'
    exact (s12_lt ⟨a, hb a ha⟩).1
  have k2 := ostep2 _ hb1
  have hb2 : Ns (((bytes8 x).map s1).map s2) := by
    intro b hb'
    obtain ⟨a, ha, rfl⟩ := List.mem_map.1 hb'
    obtain ⟨a', ha', rfl⟩ := List.mem_map.1 ha
    exact ⟨(s12_lt ⟨a', hb a' ha'⟩).2.1, (s12_lt ⟨a', hb a' ha'⟩).2.2.1, (s12_lt ⟨a', hb a' ha'⟩).2.2.2⟩
  have k3 := ostep3 _ hb2
  have m85 : vl ((bytes8 x).map fun _ => 85) = 6148914691236517205 := by simp [bytes8, vl]
  have m51 : vl (((bytes8 x).map s1).map fun _ => 51) = 3689348814741910323 := by simp [bytes8, vl]
  have m15 : vl ((((bytes8 x).map s1).map s2).map fun _ => 15) = 1085102592571150095 := by simp [bytes8, vl]
  rw [m85, hv] at k1
  rw [m51, ← k1] at k2
  rw [m15, ← k2] at k3
  have lt8 : ∀ (l : List Nat), Bs l → l.length = 8 → vl l < 18446744073709551616 := by
    intro l hl h8
    obtain ⟨a0, l, rfl⟩ := List.exists_cons_of_length_eq_add_one h8
    obtain ⟨a1, l, rfl⟩ := List.exists_cons_of_length_eq_add_one (by simpa using h8 : l.length = 7)
    obtain ⟨a2, l, rfl⟩ := List.exists_cons_of_length_eq_add_one (by simpa using h8 : l.length = 6)
    obtain ⟨a3, l, rfl⟩ := List.exists_cons_of_length_eq_add_one (by simpa using h8 : l.length = 5)
    obtain ⟨a4, l, rfl⟩ := List.exists_cons_of_length_eq_add_one (by simpa using h8 : l.length = 4)
    obtain ⟨a5, l, rfl⟩ := List.exists_cons_of_length_eq_add_one (by simpa using h8 : l.length = 3)
    obtain ⟨a6, l, rfl⟩ := List.exists_cons_of_length_eq_add_one (by simpa using h8 : l.length = 2)
    obtain ⟨a7, l, rfl⟩ := List.exists_cons_of_length_eq_add_one (by simpa using h8 : l.length = 1)
    have hn : l = [] := List.eq_nil_of_length_eq_zero (by simpa using h8)
    subst hn
    have := hl a0 (by simp); have := hl a1 (by simp); have := hl a2 (by simp); have := hl a3 (by simp)
    have := hl a4 (by simp); have := hl a5 (by simp); have := hl a6 (by simp); have := hl a7 (by simp)
    simp only [vl]
    omega
  have l1 : oc1 x < 18446744073709551616 := by
    show (x / 2 &&& 6148914691236517205) + (x &&& 6148914691236517205) < _
    rw [k1]; exact lt8 _ hb1 (by simp [bytes8])
  have o2 : oc2 (oc1 x) = vl (((bytes8 x).map s1).map s2) := k2
  have l2 : oc2 (oc1 x) < 18446744073709551616 := by
    rw [o2]; exact lt8 _ (fun b hb' => (hb2 b hb').1) (by simp [bytes8])
  have l2' : oc2 (oc1 x) ≤ 4919131752989213764 := by
    rw [o2]
    have : ∀ b ∈ bytes8 x, s2 (s1 b) ≤ 68 := fun b hb' => by have := s12_lt ⟨b, hb b hb'⟩; simp only at this; omega
    simp only [bytes8, List.mem_cons, List.not_mem_nil, or_false, forall_eq_or_imp, forall_eq] at this
    simp only [bytes8, List.map_cons, List.map_nil, vl]
    omega
  have o3 : oc3 (oc2 (oc1 x)) = vl ((((bytes8 x).map s1).map s2).map s3) := k3
  refine ⟨l1, l2, by omega, fun v a b h1 h2 h3 => ?_⟩
  have t : ∀ b ∈ bytes8 x, s3 (s2 (s1 b)) = ones b ∧ ones b ≤ 8 := fun b hb' => by
    have := s123 ⟨b, hb b hb'⟩
    simp only at this
    rw [onesF_ones 8 b (hb b hb')] at this
    exact this
  have hon : ones x = ones (x % 256) + ones (x / 256 % 256) + ones (x / 65536 % 256) + ones (x / 16777216 % 256) + ones (x / 4294967296 % 256) + ones (x / 1099511627776 % 256) + ones (x / 281474976710656 % 256) + ones (x / 72057594037927936) := by
    have sp : ∀ y, ones y = ones (y % 256) + ones (y / 256) := fun y => by
      have := ones_split 8 (y % 256) (y / 256) (Nat.mod_lt _ (by decide))
      rw [show (2 : Nat) ^ 8 = 256 from rfl, Nat.mod_add_div] at this
      exact this
    rw [sp x, sp (x / 256), sp (x / 256 / 256), sp (x / 256 / 256 / 256), sp (x / 256 / 256 / 256 / 256), sp (x / 256 / 256 / 256 / 256 / 256), sp (x / 256 / 256 / 256 / 256 / 256 / 256)]
    simp only [Nat.div_div_eq_div_mul, Nat.reduceMul]
    omega
  rw [hon]
  rw [o3] at h1
  simp only [bytes8, List.mem_cons, List.not_mem_nil, or_false, forall_eq_or_imp, forall_eq] at t
  obtain ⟨t0, t1, t2, t3, t4, t5, t6, t7⟩ := t
  simp only [bytes8, List.map_cons, List.map_nil, t0.1, t1.1, t2.1, t3.1, t4.1, t5.1, t6.1, t7.1] at h1
  have l3 : v < 18446744073709551616 := by
    have := t0.2; have := t1.2; have := t2.2; have := t3.2; have := t4.2; have := t5.2; have := t6.2; have := t7.2
    rw [h1]; simp only [vl]; omega
  exact ⟨l3, osum8 _ _ _ _ _ _ _ _ t0.2 t1.2 t2.2 t3.2 t4.2 t5.2 t6.2 t7.2 v a b h1 h2 h3⟩
end Go.Proofs.YtohkfnmggmlogaaDoor
