
/- The document's hash: its small functions. -/
import Derived.Test.YtohkfnmggmlogaaDoorShaJ
namespace Go.Proofs.YtohkfnmggmlogaaDoor
open Go.RowKit
set_option linter.unusedVariables false
/-- The document's turn of a number's bits. -/
theorem down_rot {x n : Nat} (hx : x < 4294967296) (hn : n < 32) : x / 2 ^ n + (x % 2 ^ n) * 2 ^ (32 - n) = rot x n := by
  unfold rot
  have hp : (4294967296 : Nat) = 2 ^ n * 2 ^ (32 - n) := by rw [← Nat.pow_add, show n + (32 - n) = 32 by omega]
  have h1 : x * 2 ^ (32 - n) % 4294967296 = (x % 2 ^ n) * 2 ^ (32 - n) := by
    rw [hp, Nat.mul_mod_mul_right]
  have h2 : x / 2 ^ n < 2 ^ (32 - n) := by
    rw [Nat.div_lt_iff_lt_mul (Nat.two_pow_pos n), Nat.mul_comm, ← hp]
    exact hx
  rw [h1, or_shift _ _ _ h2, Nat.add_comm]
theorem szs (l : List UInt8) : (⟨l.toArray⟩ : ByteArray).size = l.length := by simp [ByteArray.size]
theorem strCat (a b : List UInt8) : (⟨a.toArray⟩ : ByteArray) ++ (⟨b.toArray⟩ : ByteArray) = ⟨(a ++ b).toArray⟩ := by
  apply ByteArray.ext
  rw [ByteArray.data_append]
  simp
theorem strCut (b : List UInt8) (i k : Nat) : (⟨b.toArray⟩ : ByteArray).extract i k = ⟨((b.drop i).take (k - i)).toArray⟩ := by
  apply ByteArray.ext
  rw [ByteArray.data_extract]
  simp
theorem strOne (w : World) (c : UInt8) : (convert 44 9 (.slice (some ⟨w.heap.size, 0, none⟩) 1 1)).run Tryd.prog (w.alloc (.cells #[.int .u8 (c.toNat : Int)] 5)) = .ok (.string ⟨#[c]⟩) (w.alloc (.cells #[.int .u8 (c.toNat : Int)] 5)) := by
  have h := rd_of_row (w := w.alloc (.cells #[.int .u8 (c.toNat : Int)] 5)) (heap_new rfl) (xs := [c].map cb) rfl
  exact conv_str (P := Tryd.prog) (src := 44) (dst := 9) (l := [c]) Tryd.underlying44 Tryd.underlying5 Tryd.underlying9 1 h
theorem pow32 {n : Nat} (hn : n < 32) : 2 ^ n < 4294967296 := Nat.lt_of_lt_of_le (Nat.pow_lt_pow_right (by decide) hn) (by decide)
theorem u32_pow {n : Nat} (hn : n < 32) : IntKind.u32.wrap ((2 : Int) ^ n) = ((2 ^ n : Nat) : Int) := by
  rw [show ((2 : Int) ^ n) = ((2 ^ n : Nat) : Int) by rw [Int.natCast_pow]; rfl]
  exact wr_u32 _ (pow32 hn)
set_option maxRecDepth 10000 in
set_option maxHeartbeats 1000000 in
theorem rdown_any (w : World) (x n : Nat) (hx : x < 4294967296) (h0 : 0 < n) (hn : n < 32) :
    Calls Tryd.prog 39 #[.int .u32 (x : Int), .int .u64 (n : Int)] w fun e w' => e = .returned (.int .u32 ((rot x n : Nat) : Int)) ∧ Below w.heap.size w w' := by
  have hdr := down_rot hx hn
  have hp1 := u32_pow hn
  have hp2 := u32_pow (n := 32 - n) (by omega)
  have hsub : IntKind.u64.wrap ((32 : Int) - (n : Int)) = ((32 - n : Nat) : Int) := by simp only [IntKind.wrap, IntKind.bits, IntKind.signed]; simp; omega
  have hrl := rot_lt (n := n) hx
  rw [← hdr] at hrl
  rw [← hdr]
  clear hdr
  have h1 : 0 < 2 ^ n := Nat.two_pow_pos n
  obtain ⟨k, hk⟩ : ∃ k, k = 32 - n := ⟨_, rfl⟩
  rw [← hk] at hp2 hsub hrl ⊢
  have hk32 : k < 32 := by omega
  have HK := hid hk
  clear hk
  have hpq1 : 2 ^ n < 4294967296 := pow32 hn
  have hpq2 : 2 ^ k < 4294967296 := pow32 hk32
  obtain ⟨p, hp⟩ : ∃ p : Nat, p = 2 ^ n := ⟨_, rfl⟩
  obtain ⟨q, hq⟩ : ∃ q : Nat, q = 2 ^ k := ⟨_, rfl⟩
  rw [← hp] at hp1 h1 hrl hpq1 ⊢
  rw [← hq] at hp2 hrl hpq2 ⊢
  have hpne : ¬ p = 0 := by omega
  have HP := hid hp
  have HQ := hid hq
  clear hp hq
  obtain ⟨d, hd⟩ : ∃ d : Nat, d = x / p := ⟨_, rfl⟩
  obtain ⟨r, hr⟩ : ∃ r : Nat, r = x % p := ⟨_, rfl⟩
  have hdi : (x : Int) / (p : Int) = (d : Int) := by rw [hd]; rfl
  have hri : (x : Int) % (p : Int) = (r : Int) := by rw [hr]; rfl
  rw [← hd, ← hr] at hrl ⊢
  obtain ⟨m, hm⟩ : ∃ m : Nat, m = r * q := ⟨_, rfl⟩
  have hmi : (r : Int) * (q : Int) = (m : Int) := by rw [hm, Int.natCast_mul]
  rw [← hm] at hrl ⊢
  have HD := hid hd
  have HR := hid hr
  have HM := hid hm
  clear hd hr hm
  go_enter Tryd.func39, Tryd.ntmps39
  go_wp2_with fail
  refine wp_flow (by kernel_rfl) [0, 0, 3, 0, 0, 24, 0, 64, 192, 504, 1023, 2047] 11 [false, false, false, false, false, false, false, false, true, true, true, true, true, true, true, true, true, true, true] (by kernel_rfl) (by decide) (by kernel_rfl) [FP.eq (.int .u32 (x : Int)), FP.eq (.int .u32 (p : Int)), FP.eq (.int .u32 (d : Int)), FP.eq (.int .u32 (x : Int)), FP.eq (.int .u32 (p : Int)), FP.eq (.int .u32 (r : Int)), FP.eq (.int .u64 (n : Int)), FP.eq (.int .u64 (k : Int)), FP.eq (.int .u32 (q : Int)), FP.eq (.int .u32 (m : Int)), FP.eq (.int .u32 ((d + m : Nat) : Int))] ?_ ?_
  · refine allFrom_cons ?_ ?_
    · intro a_ w_ hk_
      have h0 : a_.eval (.tmp 0) = .int .u32 (x : Int) := hk_.old 0 (by kernel_rfl)
      have hx_ := hk_.ext
      clear hk_
      refine flow_plain rfl ?_
      exact gives_move rfl ⟨Below.refl _ _, h0⟩
    refine allFrom_cons ?_ ?_
    · intro a_ w_ hk_
      have h5 : a_.eval (.tmp 5) = .int .u32 (p : Int) := hk_.old 5 (by kernel_rfl)
      have hx_ := hk_.ext
      clear hk_
      refine flow_plain rfl ?_
      exact gives_move rfl ⟨Below.refl _ _, h5⟩
    refine allFrom_cons ?_ ?_
    · intro a_ w_ hk_
      have h8 : a_.eval (.tmp 8) = (.int .u32 (x : Int)) := hk_.got 0 8 _ (by kernel_rfl) rfl rfl
      have h9 : a_.eval (.tmp 9) = (.int .u32 (p : Int)) := hk_.got 1 9 _ (by kernel_rfl) rfl rfl
      have hx_ := hk_.ext
      clear hk_
      refine flow_plain rfl ?_
      unfold gives
      have hc_ : ∀ v, a_.eval (.const v) = v := fun _ => rfl
      have hn_ : ∀ f, a_.eval (.func f) = .func (.func f) #[] #[] := fun _ => rfl
      generalize a_.eval = ρ_ at *
      go_simp
      exact ⟨Below.refl _ _, congrArg (Value.int _) (wr_u32 _ (by omega))⟩
    refine allFrom_cons ?_ ?_
    · intro a_ w_ hk_
      have h0 : a_.eval (.tmp 0) = .int .u32 (x : Int) := hk_.old 0 (by kernel_rfl)
      have hx_ := hk_.ext
      clear hk_
      refine flow_plain rfl ?_
      exact gives_move rfl ⟨Below.refl _ _, h0⟩
    refine allFrom_cons ?_ ?_
    · intro a_ w_ hk_
      have h5 : a_.eval (.tmp 5) = .int .u32 (p : Int) := hk_.old 5 (by kernel_rfl)
      have hx_ := hk_.ext
      clear hk_
      refine flow_plain rfl ?_
      exact gives_move rfl ⟨Below.refl _ _, h5⟩
    refine allFrom_cons ?_ ?_
    · intro a_ w_ hk_
      have h11 : a_.eval (.tmp 11) = (.int .u32 (x : Int)) := hk_.got 3 11 _ (by kernel_rfl) rfl rfl
      have h12 : a_.eval (.tmp 12) = (.int .u32 (p : Int)) := hk_.got 4 12 _ (by kernel_rfl) rfl rfl
      have hx_ := hk_.ext
      clear hk_
      refine flow_plain rfl ?_
      unfold gives
      have hc_ : ∀ v, a_.eval (.const v) = v := fun _ => rfl
      have hn_ : ∀ f, a_.eval (.func f) = .func (.func f) #[] #[] := fun _ => rfl
      generalize a_.eval = ρ_ at *
      go_simp
      exact ⟨Below.refl _ _, congrArg (Value.int _) (by rw [Int.tmod_eq_emod_of_nonneg (by omega)]; exact hri)⟩
    refine allFrom_cons ?_ ?_
    · intro a_ w_ hk_
      have h1 : a_.eval (.tmp 1) = .int .u64 (n : Int) := hk_.old 1 (by kernel_rfl)
      have hx_ := hk_.ext
      clear hk_
      refine flow_plain rfl ?_
      exact gives_move rfl ⟨Below.refl _ _, h1⟩
    refine allFrom_cons ?_ ?_
    · intro a_ w_ hk_
      have h14 : a_.eval (.tmp 14) = (.int .u64 (n : Int)) := hk_.got 6 14 _ (by kernel_rfl) rfl rfl
      have hx_ := hk_.ext
      clear hk_
      refine flow_plain rfl ?_
      unfold gives
      have hc_ : ∀ v, a_.eval (.const v) = v := fun _ => rfl
      have hn_ : ∀ f, a_.eval (.func f) = .func (.func f) #[] #[] := fun _ => rfl
      generalize a_.eval = ρ_ at *
      go_simp
      exact ⟨Below.refl _ _, rfl⟩
    refine allFrom_cons ?_ ?_
    · intro a_ w_ hk_
      have h15 : a_.eval (.tmp 15) = (.int .u64 (k : Int)) := hk_.got 7 15 _ (by kernel_rfl) rfl rfl
      have hx_ := hk_.ext
      clear hk_
      refine flow_plain rfl ?_
      unfold gives
      have hc_ : ∀ v, a_.eval (.const v) = v := fun _ => rfl
      have hn_ : ∀ f, a_.eval (.func f) = .func (.func f) #[] #[] := fun _ => rfl
      generalize a_.eval = ρ_ at *
      go_simp
      exact ⟨Below.refl _ _, rfl⟩
    refine allFrom_cons ?_ ?_
    · intro a_ w_ hk_
      have h13 : a_.eval (.tmp 13) = (.int .u32 (r : Int)) := hk_.got 5 13 _ (by kernel_rfl) rfl rfl
      have h16 : a_.eval (.tmp 16) = (.int .u32 (q : Int)) := hk_.got 8 16 _ (by kernel_rfl) rfl rfl
      have hx_ := hk_.ext
      clear hk_
      refine flow_plain rfl ?_
      unfold gives
      have hc_ : ∀ v, a_.eval (.const v) = v := fun _ => rfl
      have hn_ : ∀ f, a_.eval (.func f) = .func (.func f) #[] #[] := fun _ => rfl
      generalize a_.eval = ρ_ at *
      go_simp
      exact ⟨Below.refl _ _, congrArg (Value.int _) (wr_u32 _ (by omega))⟩
    refine allFrom_cons ?_ ?_
    · intro a_ w_ hk_
      have h10 : a_.eval (.tmp 10) = (.int .u32 (d : Int)) := hk_.got 2 10 _ (by kernel_rfl) rfl rfl
      have h17 : a_.eval (.tmp 17) = (.int .u32 (m : Int)) := hk_.got 9 17 _ (by kernel_rfl) rfl rfl
      have hx_ := hk_.ext
      clear hk_
      refine flow_plain rfl ?_
      unfold gives
      have hc_ : ∀ v, a_.eval (.const v) = v := fun _ => rfl
      have hn_ : ∀ f, a_.eval (.func f) = .func (.func f) #[] #[] := fun _ => rfl
      generalize a_.eval = ρ_ at *
      go_simp
      exact ⟨Below.refl _ _, congrArg (Value.int _) (wr_u32 _ (by omega))⟩
    exact allFrom_nil
  intro f_ w_ hx_ hf_
  have h8 : f_ 8 = (.int .u32 (x : Int)) := hf_ 0 8 _ (by decide) rfl rfl
  have h9 : f_ 9 = (.int .u32 (p : Int)) := hf_ 1 9 _ (by decide) rfl rfl
  have h10 : f_ 10 = (.int .u32 (d : Int)) := hf_ 2 10 _ (by decide) rfl rfl
  have h11 : f_ 11 = (.int .u32 (x : Int)) := hf_ 3 11 _ (by decide) rfl rfl
  have h12 : f_ 12 = (.int .u32 (p : Int)) := hf_ 4 12 _ (by decide) rfl rfl
  have h13 : f_ 13 = (.int .u32 (r : Int)) := hf_ 5 13 _ (by decide) rfl rfl
  have h14 : f_ 14 = (.int .u64 (n : Int)) := hf_ 6 14 _ (by decide) rfl rfl
  have h15 : f_ 15 = (.int .u64 (k : Int)) := hf_ 7 15 _ (by decide) rfl rfl
  have h16 : f_ 16 = (.int .u32 (q : Int)) := hf_ 8 16 _ (by decide) rfl rfl
  have h17 : f_ 17 = (.int .u32 (m : Int)) := hf_ 9 17 _ (by decide) rfl rfl
  have h18 : f_ 18 = (.int .u32 ((d + m : Nat) : Int)) := hf_ 10 18 _ (by decide) rfl rfl
  simp only [mix, List.drop_succ_cons, List.drop_zero, h8, h9, h10, h11, h12, h13, h14, h15, h16, h17, h18]
  clear h8 h9 h10 h11 h12 h13 h14 h15 h16 h17 h18
  clear hf_
  go_wp2
  go_ret
  exact ⟨rfl, hx_⟩
set_option maxRecDepth 10000 in
set_option maxHeartbeats 1000000 in
theorem number_any (w : World) (b0 b1 b2 b3 : UInt8) :
    Calls Tryd.prog 38 #[.string ⟨#[b0, b1, b2, b3]⟩] w fun e w' => e = .returned (.int .u32 ((b0.toNat * 16777216 + b1.toNat * 65536 + b2.toNat * 256 + b3.toNat : Nat) : Int)) ∧ Below w.heap.size w w' := by
  have h0 := b0.toNat_lt
  have h1 := b1.toNat_lt
  have h2 := b2.toNat_lt
  have h3 := b3.toNat_lt
  go_enter Tryd.func38, Tryd.ntmps38
  go_wp2_with fail
  refine wp_flow (by kernel_rfl) [0, 1, 3, 7, 0, 16, 48, 112, 255, 0, 512, 1536, 3584, 8191, 0, 16384, 49152, 131071, 262143] 18 [false, false, false, true, true, true, true, true, true, true, true, true, true, true, true, true, true, true, true, true, true] (by kernel_rfl) (by decide) (by kernel_rfl) [FP.eq (.string ⟨#[b0, b1, b2, b3]⟩), FP.eq (.int .u8 (b0.toNat : Int)), FP.eq (.int .u32 (b0.toNat : Int)), FP.eq (.int .u32 ((b0.toNat * 16777216 : Nat) : Int)), FP.eq (.string ⟨#[b0, b1, b2, b3]⟩), FP.eq (.int .u8 (b1.toNat : Int)), FP.eq (.int .u32 (b1.toNat : Int)), FP.eq (.int .u32 ((b1.toNat * 65536 : Nat) : Int)), FP.eq (.int .u32 ((b0.toNat * 16777216 + b1.toNat * 65536 : Nat) : Int)), FP.eq (.string ⟨#[b0, b1, b2, b3]⟩), FP.eq (.int .u8 (b2.toNat : Int)), FP.eq (.int .u32 (b2.toNat : Int)), FP.eq (.int .u32 ((b2.toNat * 256 : Nat) : Int)), FP.eq (.int .u32 ((b0.toNat * 16777216 + b1.toNat * 65536 + b2.toNat * 256 : Nat) : Int)), FP.eq (.string ⟨#[b0, b1, b2, b3]⟩), FP.eq (.int .u8 (b3.toNat : Int)), FP.eq (.int .u32 (b3.toNat : Int)), FP.eq (.int .u32 ((b0.toNat * 16777216 + b1.toNat * 65536 + b2.toNat * 256 + b3.toNat : Nat) : Int))] ?_ ?_
  · refine allFrom_cons ?_ ?_
    · intro a_ w_ hk_
      have h0 : a_.eval (.tmp 0) = .string ⟨#[b0, b1, b2, b3]⟩ := hk_.old 0 (by kernel_rfl)
      have hx_ := hk_.ext
      clear hk_
      refine flow_plain rfl ?_
      exact gives_move rfl ⟨Below.refl _ _, h0⟩
    refine allFrom_cons ?_ ?_
    · intro a_ w_ hk_
      have h3 : a_.eval (.tmp 3) = (.string ⟨#[b0, b1, b2, b3]⟩) := hk_.got 0 3 _ (by kernel_rfl) rfl rfl
      have hx_ := hk_.ext
      clear hk_
      refine flow_plain rfl ?_
      unfold gives
      have hc_ : ∀ v, a_.eval (.const v) = v := fun _ => rfl
      have hn_ : ∀ f, a_.eval (.func f) = .func (.func f) #[] #[] := fun _ => rfl
      generalize a_.eval = ρ_ at *
      go_simp
      exact ⟨Below.refl _ _, rfl⟩
    refine allFrom_cons ?_ ?_
    · intro a_ w_ hk_
      have h4 : a_.eval (.tmp 4) = (.int .u8 (b0.toNat : Int)) := hk_.got 1 4 _ (by kernel_rfl) rfl rfl
      have hx_ := hk_.ext
      clear hk_
      refine flow_plain rfl ?_
      unfold gives
      have hc_ : ∀ v, a_.eval (.const v) = v := fun _ => rfl
      have hn_ : ∀ f, a_.eval (.func f) = .func (.func f) #[] #[] := fun _ => rfl
      generalize a_.eval = ρ_ at *
      go_simp
      exact ⟨Below.refl _ _, congrArg (Value.int _) (wr32 _ (by omega) (by omega))⟩
    refine allFrom_cons ?_ ?_
    · intro a_ w_ hk_
      have h5 : a_.eval (.tmp 5) = (.int .u32 (b0.toNat : Int)) := hk_.got 2 5 _ (by kernel_rfl) rfl rfl
      have hx_ := hk_.ext
      clear hk_
      refine flow_plain rfl ?_
      unfold gives
      have hc_ : ∀ v, a_.eval (.const v) = v := fun _ => rfl
      have hn_ : ∀ f, a_.eval (.func f) = .func (.func f) #[] #[] := fun _ => rfl
      generalize a_.eval = ρ_ at *
      go_simp
      exact ⟨Below.refl _ _, congrArg (Value.int _) (wr32 _ (by omega) (by omega))⟩
    refine allFrom_cons ?_ ?_
    · intro a_ w_ hk_
      have h0 : a_.eval (.tmp 0) = .string ⟨#[b0, b1, b2, b3]⟩ := hk_.old 0 (by kernel_rfl)
      have hx_ := hk_.ext
      clear hk_
      refine flow_plain rfl ?_
      exact gives_move rfl ⟨Below.refl _ _, h0⟩
    refine allFrom_cons ?_ ?_
    · intro a_ w_ hk_
      have h7 : a_.eval (.tmp 7) = (.string ⟨#[b0, b1, b2, b3]⟩) := hk_.got 4 7 _ (by kernel_rfl) rfl rfl
      have hx_ := hk_.ext
      clear hk_
      refine flow_plain rfl ?_
      unfold gives
      have hc_ : ∀ v, a_.eval (.const v) = v := fun _ => rfl
      have hn_ : ∀ f, a_.eval (.func f) = .func (.func f) #[] #[] := fun _ => rfl
      generalize a_.eval = ρ_ at *
      go_simp
      exact ⟨Below.refl _ _, rfl⟩
    refine allFrom_cons ?_ ?_
    · intro a_ w_ hk_
      have h8 : a_.eval (.tmp 8) = (.int .u8 (b1.toNat : Int)) := hk_.got 5 8 _ (by kernel_rfl) rfl rfl
      have hx_ := hk_.ext
      clear hk_
      refine flow_plain rfl ?_
      unfold gives
      have hc_ : ∀ v, a_.eval (.const v) = v := fun _ => rfl
      have hn_ : ∀ f, a_.eval (.func f) = .func (.func f) #[] #[] := fun _ => rfl
      generalize a_.eval = ρ_ at *
      go_simp
      exact ⟨Below.refl _ _, congrArg (Value.int _) (wr32 _ (by omega) (by omega))⟩
    refine allFrom_cons ?_ ?_
    · intro a_ w_ hk_
      have h9 : a_.eval (.tmp 9) = (.int .u32 (b1.toNat : Int)) := hk_.got 6 9 _ (by kernel_rfl) rfl rfl
      have hx_ := hk_.ext
      clear hk_
      refine flow_plain rfl ?_
      unfold gives
      have hc_ : ∀ v, a_.eval (.const v) = v := fun _ => rfl
      have hn_ : ∀ f, a_.eval (.func f) = .func (.func f) #[] #[] := fun _ => rfl
      generalize a_.eval = ρ_ at *
      go_simp
      exact ⟨Below.refl _ _, congrArg (Value.int _) (wr32 _ (by omega) (by omega))⟩
    refine allFrom_cons ?_ ?_
    · intro a_ w_ hk_
      have h6 : a_.eval (.tmp 6) = (.int .u32 ((b0.toNat * 16777216 : Nat) : Int)) := hk_.got 3 6 _ (by kernel_rfl) rfl rfl
      have h10 : a_.eval (.tmp 10) = (.int .u32 ((b1.toNat * 65536 : Nat) : Int)) := hk_.got 7 10 _ (by kernel_rfl) rfl rfl
      have hx_ := hk_.ext
      clear hk_
      refine flow_plain rfl ?_
      unfold gives
      have hc_ : ∀ v, a_.eval (.const v) = v := fun _ => rfl
      have hn_ : ∀ f, a_.eval (.func f) = .func (.func f) #[] #[] := fun _ => rfl
      generalize a_.eval = ρ_ at *
      go_simp
      exact ⟨Below.refl _ _, congrArg (Value.int _) (wr32 _ (by omega) (by omega))⟩
    refine allFrom_cons ?_ ?_
    · intro a_ w_ hk_
      have h0 : a_.eval (.tmp 0) = .string ⟨#[b0, b1, b2, b3]⟩ := hk_.old 0 (by kernel_rfl)
      have hx_ := hk_.ext
      clear hk_
      refine flow_plain rfl ?_
      exact gives_move rfl ⟨Below.refl _ _, h0⟩
    refine allFrom_cons ?_ ?_
    · intro a_ w_ hk_
      have h12 : a_.eval (.tmp 12) = (.string ⟨#[b0, b1, b2, b3]⟩) := hk_.got 9 12 _ (by kernel_rfl) rfl rfl
      have hx_ := hk_.ext
      clear hk_
      refine flow_plain rfl ?_
      unfold gives
      have hc_ : ∀ v, a_.eval (.const v) = v := fun _ => rfl
      have hn_ : ∀ f, a_.eval (.func f) = .func (.func f) #[] #[] := fun _ => rfl
      generalize a_.eval = ρ_ at *
      go_simp
      exact ⟨Below.refl _ _, rfl⟩
    refine allFrom_cons ?_ ?_
    · intro a_ w_ hk_
      have h13 : a_.eval (.tmp 13) = (.int .u8 (b2.toNat : Int)) := hk_.got 10 13 _ (by kernel_rfl) rfl rfl
      have hx_ := hk_.ext
      clear hk_
      refine flow_plain rfl ?_
      unfold gives
      have hc_ : ∀ v, a_.eval (.const v) = v := fun _ => rfl
      have hn_ : ∀ f, a_.eval (.func f) = .func (.func f) #[] #[] := fun _ => rfl
      generalize a_.eval = ρ_ at *
      go_simp
      exact ⟨Below.refl _ _, congrArg (Value.int _) (wr32 _ (by omega) (by omega))⟩
    refine allFrom_cons ?_ ?_
    · intro a_ w_ hk_
      have h14 : a_.eval (.tmp 14) = (.int .u32 (b2.toNat : Int)) := hk_.got 11 14 _ (by kernel_rfl) rfl rfl
      have hx_ := hk_.ext
      clear hk_
      refine flow_plain rfl ?_
      unfold gives
      have hc_ : ∀ v, a_.eval (.const v) = v := fun _ => rfl
      have hn_ : ∀ f, a_.eval (.func f) = .func (.func f) #[] #[] := fun _ => rfl
      generalize a_.eval = ρ_ at *
      go_simp
      exact ⟨Below.refl _ _, congrArg (Value.int _) (wr32 _ (by omega) (by omega))⟩
    refine allFrom_cons ?_ ?_
    · intro a_ w_ hk_
      have h11 : a_.eval (.tmp 11) = (.int .u32 ((b0.toNat * 16777216 + b1.toNat * 65536 : Nat) : Int)) := hk_.got 8 11 _ (by kernel_rfl) rfl rfl
      have h15 : a_.eval (.tmp 15) = (.int .u32 ((b2.toNat * 256 : Nat) : Int)) := hk_.got 12 15 _ (by kernel_rfl) rfl rfl
      have hx_ := hk_.ext
      clear hk_
      refine flow_plain rfl ?_
      unfold gives
      have hc_ : ∀ v, a_.eval (.const v) = v := fun _ => rfl
      have hn_ : ∀ f, a_.eval (.func f) = .func (.func f) #[] #[] := fun _ => rfl
      generalize a_.eval = ρ_ at *
      go_simp
      exact ⟨Below.refl _ _, congrArg (Value.int _) (wr32 _ (by omega) (by omega))⟩
    refine allFrom_cons ?_ ?_
    · intro a_ w_ hk_
      have h0 : a_.eval (.tmp 0) = .string ⟨#[b0, b1, b2, b3]⟩ := hk_.old 0 (by kernel_rfl)
      have hx_ := hk_.ext
      clear hk_
      refine flow_plain rfl ?_
      exact gives_move rfl ⟨Below.refl _ _, h0⟩
    refine allFrom_cons ?_ ?_
    · intro a_ w_ hk_
      have h17 : a_.eval (.tmp 17) = (.string ⟨#[b0, b1, b2, b3]⟩) := hk_.got 14 17 _ (by kernel_rfl) rfl rfl
      have hx_ := hk_.ext
      clear hk_
      refine flow_plain rfl ?_
      unfold gives
      have hc_ : ∀ v, a_.eval (.const v) = v := fun _ => rfl
      have hn_ : ∀ f, a_.eval (.func f) = .func (.func f) #[] #[] := fun _ => rfl
      generalize a_.eval = ρ_ at *
      go_simp
      exact ⟨Below.refl _ _, rfl⟩
    refine allFrom_cons ?_ ?_
    · intro a_ w_ hk_
      have h18 : a_.eval (.tmp 18) = (.int .u8 (b3.toNat : Int)) := hk_.got 15 18 _ (by kernel_rfl) rfl rfl
      have hx_ := hk_.ext
      clear hk_
      refine flow_plain rfl ?_
      unfold gives
      have hc_ : ∀ v, a_.eval (.const v) = v := fun _ => rfl
      have hn_ : ∀ f, a_.eval (.func f) = .func (.func f) #[] #[] := fun _ => rfl
      generalize a_.eval = ρ_ at *
      go_simp
      exact ⟨Below.refl _ _, congrArg (Value.int _) (wr32 _ (by omega) (by omega))⟩
    refine allFrom_cons ?_ ?_
    · intro a_ w_ hk_
      have h16 : a_.eval (.tmp 16) = (.int .u32 ((b0.toNat * 16777216 + b1.toNat * 65536 + b2.toNat * 256 : Nat) : Int)) := hk_.got 13 16 _ (by kernel_rfl) rfl rfl
      have h19 : a_.eval (.tmp 19) = (.int .u32 (b3.toNat : Int)) := hk_.got 16 19 _ (by kernel_rfl) rfl rfl
      have hx_ := hk_.ext
      clear hk_
      refine flow_plain rfl ?_
      unfold gives
      have hc_ : ∀ v, a_.eval (.const v) = v := fun _ => rfl
      have hn_ : ∀ f, a_.eval (.func f) = .func (.func f) #[] #[] := fun _ => rfl
      generalize a_.eval = ρ_ at *
      go_simp
      exact ⟨Below.refl _ _, congrArg (Value.int _) (wr32 _ (by omega) (by omega))⟩
    exact allFrom_nil
  intro f_ w_ hx_ hf_
  have h3 : f_ 3 = (.string ⟨#[b0, b1, b2, b3]⟩) := hf_ 0 3 _ (by decide) rfl rfl
  have h4 : f_ 4 = (.int .u8 (b0.toNat : Int)) := hf_ 1 4 _ (by decide) rfl rfl
  have h5 : f_ 5 = (.int .u32 (b0.toNat : Int)) := hf_ 2 5 _ (by decide) rfl rfl
  have h6 : f_ 6 = (.int .u32 ((b0.toNat * 16777216 : Nat) : Int)) := hf_ 3 6 _ (by decide) rfl rfl
  have h7 : f_ 7 = (.string ⟨#[b0, b1, b2, b3]⟩) := hf_ 4 7 _ (by decide) rfl rfl
  have h8 : f_ 8 = (.int .u8 (b1.toNat : Int)) := hf_ 5 8 _ (by decide) rfl rfl
  have h9 : f_ 9 = (.int .u32 (b1.toNat : Int)) := hf_ 6 9 _ (by decide) rfl rfl
  have h10 : f_ 10 = (.int .u32 ((b1.toNat * 65536 : Nat) : Int)) := hf_ 7 10 _ (by decide) rfl rfl
  have h11 : f_ 11 = (.int .u32 ((b0.toNat * 16777216 + b1.toNat * 65536 : Nat) : Int)) := hf_ 8 11 _ (by decide) rfl rfl
  have h12 : f_ 12 = (.string ⟨#[b0, b1, b2, b3]⟩) := hf_ 9 12 _ (by decide) rfl rfl
  have h13 : f_ 13 = (.int .u8 (b2.toNat : Int)) := hf_ 10 13 _ (by decide) rfl rfl
  have h14 : f_ 14 = (.int .u32 (b2.toNat : Int)) := hf_ 11 14 _ (by decide) rfl rfl
  have h15 : f_ 15 = (.int .u32 ((b2.toNat * 256 : Nat) : Int)) := hf_ 12 15 _ (by decide) rfl rfl
  have h16 : f_ 16 = (.int .u32 ((b0.toNat * 16777216 + b1.toNat * 65536 + b2.toNat * 256 : Nat) : Int)) := hf_ 13 16 _ (by decide) rfl rfl
  have h17 : f_ 17 = (.string ⟨#[b0, b1, b2, b3]⟩) := hf_ 14 17 _ (by decide) rfl rfl
  have h18 : f_ 18 = (.int .u8 (b3.toNat : Int)) := hf_ 15 18 _ (by decide) rfl rfl
  have h19 : f_ 19 = (.int .u32 (b3.toNat : Int)) := hf_ 16 19 _ (by decide) rfl rfl
  have h20 : f_ 20 = (.int .u32 ((b0.toNat * 16777216 + b1.toNat * 65536 + b2.toNat * 256 + b3.toNat : Nat) : Int)) := hf_ 17 20 _ (by decide) rfl rfl
  simp only [mix, List.drop_succ_cons, List.drop_zero, h3, h4, h5, h6, h7, h8, h9, h10, h11, h12, h13, h14, h15, h16, h17, h18, h19, h20]
  clear h3 h4 h5 h6 h7 h8 h9 h10 h11 h12 h13 h14 h15 h16 h17 h18 h19 h20
  clear hf_
  go_wp2
  go_ret
  exact ⟨rfl, hx_⟩
set_option maxRecDepth 10000 in
set_option maxHeartbeats 1000000 in
theorem roots_any (w : World) : Calls Tryd.prog 37 #[] w fun e w' => ∃ g, e = .returned (.slice (some ⟨g, 0, none⟩) 64 64) ∧ Blk w' g 52 (rootL.map cw).toArray ∧ Below w.heap.size w w' := by
  go_enter Tryd.func37, Tryd.ntmps37
  go_wp2
  go_ret
  refine ⟨_, rfl, ?_, bx_alloc (Below.refl _ _) _⟩
  exact Blk.new w 52 (rootL.map cw).toArray
end Go.Proofs.YtohkfnmggmlogaaDoor
