/- The law CrcBurst: its walk. -/
import Derived.Test.YthhijbnmljndeaaCrcLaw4
namespace Go.Proofs.Ythhijbnmljndeaa
open Go.RowKit
/-! ### The plain law: a row of bytes as one number, the lowest bit first -/
def vl : List UInt8 → Nat
  | [] => 0
  | c :: l => c.toNat ^^^ (256 * vl l)
theorem mul_xor (k a b : Nat) : 2 ^ k * (a ^^^ b) = (2 ^ k * a) ^^^ (2 ^ k * b) := by
  have h := Nat.shiftLeft_xor_distrib (a := a) (b := b) (i := k)
  rw [Nat.shiftLeft_eq, Nat.shiftLeft_eq, Nat.shiftLeft_eq] at h
  rw [Nat.mul_comm, h, Nat.mul_comm a, Nat.mul_comm b]
theorem crcF_vl : ∀ (l : List UInt8) (x : Nat), crcF x l = stn (x ^^^ vl l) (8 * l.length)
  | [], x => by simp [crcF, vl, stn]
  | c :: l, x => by
    have ih := crcF_vl l (crcB x c)
    show crcF (crcB x c) l = _
    rw [ih, show 8 * (c :: l).length = 8 + 8 * l.length by simp; omega, stn_add]
    congr 1
    rw [crcB_eq, vl, ← Nat.xor_assoc, show 256 * vl l = 2 ^ 8 * vl l from rfl, stn_xor (x ^^^ c.toNat) (2 ^ 8 * vl l), stn_mul]
theorem vl_set : ∀ (l : List UInt8) (j r : Nat) (hj : j < l.length) (u : UInt8), u.toNat = l[j].toNat ^^^ 2 ^ r → vl (l.set j u) = vl l ^^^ 2 ^ (8 * j + r)
  | c :: l, 0, r, _, u, h => by
    simp only [List.set_cons_zero, vl, h, List.getElem_cons_zero, Nat.mul_zero, Nat.zero_add]
    ac_rfl
  | c :: l, j + 1, r, hj, u, h => by
    simp only [List.set_cons_succ, vl]
    rw [vl_set l j r (by simpa using hj) u (by simpa using h), show 256 = 2 ^ 8 from rfl, mul_xor, ← Nat.pow_add, show 8 + (8 * j + r) = 8 * (j + 1) + r by omega, Nat.xor_assoc]
theorem st_ne {x : Nat} (h : x < 4294967296) (h0 : x ≠ 0) : st x ≠ 0 := by
  unfold st
  intro he
  rcases Nat.mod_two_eq_zero_or_one x with hm | hm
  · rw [hm] at he
    simp at he
    omega
  · rw [hm, Nat.one_mul] at he
    have : x / 2 = 3988292384 := by
      have h1 : x / 2 ^^^ 3988292384 ^^^ 3988292384 = 0 ^^^ 3988292384 := by rw [he]
      rwa [Nat.xor_assoc, Nat.xor_self, Nat.xor_zero, Nat.zero_xor] at h1
    omega
theorem stn_ne {x : Nat} (h : x < 4294967296) (h0 : x ≠ 0) (k : Nat) : stn x k ≠ 0 := by
  induction k with
  | zero => exact h0
  | succ k ih => exact st_ne (stn_lt h k) ih
/-- The first i of the burst's bits are turned. -/
def Turned (b : List UInt8) (k B i : Nat) (y : List UInt8) : Prop := y.length = b.length ∧ vl y = vl b ^^^ (2 ^ k * (B % 2 ^ i))
theorem turned_zero (b : List UInt8) (k B : Nat) : Turned b k B 0 b := ⟨rfl, by simp [Nat.mod_one]⟩
theorem mod_succ (B i : Nat) : B % 2 ^ (i + 1) = (B % 2 ^ i) + 2 ^ i * (B / 2 ^ i % 2) := by rw [Nat.pow_succ, Nat.mod_mul]
theorem turned_no {b y : List UInt8} {k B i : Nat} (h : Turned b k B i y) (hb : B / 2 ^ i % 2 = 0) : Turned b k B (i + 1) y := ⟨h.1, by rw [h.2, mod_succ, hb]; simp⟩
theorem turned_yes {b y : List UInt8} {k B i : Nat} (h : Turned b k B i y) (hb : B / 2 ^ i % 2 = 1) (hj : (k + i) / 8 < y.length) {u : UInt8} (hu : u.toNat = y[(k + i) / 8].toNat ^^^ 2 ^ ((k + i) % 8)) : Turned b k B (i + 1) (y.set ((k + i) / 8) u) := by
  refine ⟨by simpa using h.1, ?_⟩
  rw [vl_set y _ _ hj u hu, h.2, show 8 * ((k + i) / 8) + (k + i) % 8 = k + i by omega, mod_succ, hb, Nat.mul_one]
  have e : B % 2 ^ i + 2 ^ i = (B % 2 ^ i) ^^^ 2 ^ i := by
    have h1 : B % 2 ^ i < 2 ^ i := Nat.mod_lt _ (Nat.two_pow_pos i)
    have h2 := split_xor (B % 2 ^ i + 2 ^ i) i
    rw [Nat.add_div_right _ (Nat.two_pow_pos i), Nat.div_eq_of_lt h1, Nat.add_mod_right, Nat.mod_eq_of_lt h1] at h2
    rw [← h2, Nat.xor_comm]
    simp
  rw [e, mul_xor, ← Nat.pow_add, Nat.xor_assoc]
theorem turned_crc {b y : List UInt8} {k B : Nat} (hB : B < 4294967296) (hk : k + 32 ≤ 8 * b.length) (h : Turned b k B 32 y) : (crc y = crc b) ↔ B = 0 := by
  obtain ⟨hl, hv⟩ := h
  rw [Nat.mod_eq_of_lt (by omega)] at hv
  have hy : crcF 4294967295 y = crcF 4294967295 b ^^^ stn B (8 * b.length - k) := by
    rw [crcF_vl, crcF_vl, hl, hv, ← Nat.xor_assoc, stn_xor]
    congr 1
    rw [show 8 * b.length = k + (8 * b.length - k) by omega, stn_add, stn_mul]
    congr 1
    omega
  have h1 := crcF_lt (x := 4294967295) (by omega) y
  have h2 := crcF_lt (x := 4294967295) (by omega) b
  unfold crc
  constructor
  · intro he
    apply Classical.byContradiction
    intro hne
    refine stn_ne hB hne (8 * b.length - k) ?_
    have h3 : crcF 4294967295 y = crcF 4294967295 b := by omega
    rw [h3] at hy
    have h4 : crcF 4294967295 b ^^^ crcF 4294967295 b = crcF 4294967295 b ^^^ (crcF 4294967295 b ^^^ stn B (8 * b.length - k)) := by rw [← hy]
    rw [Nat.xor_self, ← Nat.xor_assoc, Nat.xor_self, Nat.zero_xor] at h4
    exact h4.symm
  · intro he
    subst he
    rw [hy, stn_zero, Nat.xor_zero]
theorem bit_walk {B : Nat} (hB : B < 4294967296) (i : Nat) : bits BinOp.and IntKind.u32 ((B : Int) / 2 ^ i) 1 = ((B / 2 ^ i % 2 : Nat) : Int) := by
  have h1 : ((B : Int) / 2 ^ i) = ((B / 2 ^ i : Nat) : Int) := by rw [Int.natCast_ediv, Int.natCast_pow]; rfl
  have h2 : B / 2 ^ i < 4294967296 := Nat.lt_of_le_of_lt (Nat.div_le_self _ _) hB
  rw [h1, show (1 : Int) = ((1 : Nat) : Int) from rfl, u32_and_nat _ _ h2 (by omega), Nat.and_one_is_mod]
def turn8 (x : UInt8) (r : Nat) : UInt8 := UInt8.ofNat (x.toNat ^^^ 2 ^ r)
theorem turn8_lt (x : UInt8) {r : Nat} (hr : r < 8) : x.toNat ^^^ 2 ^ r < 256 := Nat.xor_lt_two_pow (n := 8) x.toNat_lt (Nat.pow_lt_pow_right (by omega) hr)
theorem turn8_nat (x : UInt8) {r : Nat} (hr : r < 8) : (turn8 x r).toNat = x.toNat ^^^ 2 ^ r := by
  unfold turn8
  rw [UInt8.toNat_ofNat', Nat.mod_eq_of_lt (turn8_lt x hr)]
theorem turn_walk (x : UInt8) {r : Nat} (hr : r < 8) : bits BinOp.xor IntKind.u8 (x.toNat : Int) (2 ^ r % 256) = ((turn8 x r).toNat : Int) := by
  have h1 : (2 ^ r : Nat) < 256 := Nat.pow_lt_pow_right (by omega) hr
  have h2 : ((2 : Int) ^ r % 256) = ((2 ^ r : Nat) : Int) := by
    rw [show ((2 : Int) ^ r) = ((2 ^ r : Nat) : Int) by rw [Int.natCast_pow]; rfl]
    generalize 2 ^ r = q at *
    omega
  rw [h2, u8_xor_nat _ _ (u8_lt x) h1, turn8_nat x hr]
set_option maxHeartbeats 1000000 in
theorem CrcBurst_walk (w : World) (A : Option Addr) (c : Nat) (l : List UInt8) (hc : l.length ≤ c) (hm : c ≤ maxLen) (hr : Rd w w.heap.size A (l.map cb)) (at_ : Int) (hat : (Lit.int .u16 at_).wf = true) (bu : Int) (hbu : (Lit.int .u32 bu).wf = true) :
    Calls Try.prog 4 #[.slice A l.length c, .int .u16 at_, .int .u32 bu] w fun e w' => e = .returned (.bool true) ∧ Below w.heap.size w w' := by
  obtain ⟨h0, h1⟩ := bounds_u16 hat
  obtain ⟨g0, g1⟩ := bounds_u32 hbu
  clear hat hbu
  unfold maxLen at hm
  obtain ⟨B, rfl⟩ := Int.eq_ofNat_of_zero_le g0
  go_enter Try.func4, Try.ntmps4
  go_wp2_with fail
  refine (awake_any _).mono ?_
  rintro e w1 ⟨rfl, hb1⟩
  have hr1 := hr.below hb1
  by_cases hs4 : l.length < 4
  · go_wp2
    go_ret
    exact ⟨rfl, hb1⟩
  by_cases hs300 : 300 < l.length
  · go_wp2
    go_ret
    exact ⟨rfl, hb1⟩
  have hown0 := World.ownsRow_nil w1 w.heap.size 5 1
  have h63 : 0 + l.length ≤ maxLen := by unfold maxLen; omega
  have hby : (0 + l.length) * 1 ≤ 140737488355328 := by omega
  have hlm : (l.map cb).length = l.length * 1 := by simp
  have hlpos : 0 < 0 + l.length := by omega
  have hk0 : 0 ≤ at_ % (8 * (l.length : Int) - 31) := Int.emod_nonneg _ (by omega)
  have hk1 : at_ % (8 * (l.length : Int) - 31) < 8 * (l.length : Int) - 31 := Int.emod_lt_of_pos _ (by omega)
  obtain ⟨k, hk⟩ := Int.eq_ofNat_of_zero_le hk0
  rw [hk] at hk1
  have HK := hid hk
  clear hk hk0
  go_wp2_with (at_builtin; refine wpList_app rfl _ _ _ rfl (.slice none 0 0) rfl _ _ _ rfl elU8 hown0 hr1 hlm (one_cb l) h63 hby hb1.size ?_; intro v' w2 hown2 hg2 hat2; have hb2 := own_below hb1 hown0 hg2; clear hg2 hat2; obtain ⟨g, cap, rfl, hgB, hgs, hcap, hcm⟩ := own_block hown2 hlpos)
  rw [HK.out]
  have hownL : w2.ownsRow w.heap.size 5 1 (.slice (some ⟨g, 0, none⟩) l.length cap) l.length (l.map cb) := by simpa using hown2
  have hk2 : k + 32 ≤ 8 * l.length := by omega
  clear hown2 hown0 h63 hby hlm hlpos
  go_loopw [10] (fun iv wr => ∃ (i : Nat) (y : List UInt8), i ≤ 32 ∧ iv = .int .i64 i ∧ wr.ownsRow w.heap.size 5 1 (.slice (some ⟨g, 0, none⟩) l.length cap) l.length (y.map cb) ∧ Turned l k B i y ∧ Below w.heap.size w wr) (fun iv _ => 32 - (intOf iv).toNat)
  case atStart => exact ⟨0, l, by omega, rfl, hownL, turned_zero l k B, hb2⟩
  case round =>
    obtain ⟨i, y, hi, rfl, hown, ht, hbr⟩ := hrel
    clear hownL
    by_cases hlt : i < 32
    · have hyl := ht.1
      have hyl1 : y.length ≤ l.length := by omega
      have hyl2 : l.length ≤ y.length := by omega
      have hj : (k + i) / 8 < y.length := by omega
      have hcell := hown.cellAt ((k + i) / 8) (by omega)
      have hfr := hown.frozenAt ((k + i) / 8)
      rw [List.getElem?_map, List.getElem?_eq_getElem hj] at hcell
      simp only [Option.map_some, cb] at hcell
      have HOWN := hid hown
      have HT := hid ht
      clear hown ht hyl
      have hbw := bit_walk (B := B) (by omega) i
      have htw := turn_walk y[(k + i) / 8] (r := (k + i) % 8) (by omega)
      have htn := turn8_nat y[(k + i) / 8] (r := (k + i) % 8) (by omega)
      have HBW := hid hbw
      have HTW := hid htw
      have HTN := hid htn
      clear hbw htw htn
      go_wp2
      · have hyes : (bits BinOp.and IntKind.u32 ((B : Int) / 2 ^ i) 1 == 1) = true := by assumption
        rw [HBW.out] at hyes
        have hb1 : B / 2 ^ i % 2 = 1 := by
          have := WalkArith.int_eq hyes
          omega
        go_roundw
        case rel =>
          rw [HTW.out]
          refine ⟨i + 1, y.set ((k + i) / 8) (turn8 y[(k + i) / 8] ((k + i) % 8)), by omega, by go_num, ?_, turned_yes HT.out hb1 hj HTN.out, bx_setCell hbr hgB _⟩
          rw [List.map_set]
          exact (HOWN.out.stored _ _).1
        case measure => simp [intOf]; omega
      · have hno : (bits BinOp.and IntKind.u32 ((B : Int) / 2 ^ i) 1 == 1) = false := by assumption
        rw [HBW.out] at hno
        have hb0 : B / 2 ^ i % 2 = 0 := by
          have := WalkArith.int_ne hno
          omega
        go_roundw
        case rel => exact ⟨i + 1, y, by omega, by go_num, HOWN.out, turned_no HT.out hb0, hbr⟩
        case measure => simp [intOf]; omega
    · obtain rfl : i = 32 := by omega
      have hiff := turned_crc (B := B) (by omega) hk2 ht
      have hyl : y.length = l.length := ht.1
      have hrow : RdB wr wr.heap.size (.slice (some ⟨g, 0, none⟩) l.length cap) y := own_bytes (by rw [hyl]; exact hown)
      have HIFF := hid hiff
      have hyl1 : y.length ≤ 300 := by omega
      clear hown ht hiff hyl hr1
      go_wp2_with fail
      refine (crcOf_any _ _ _ [y] (by simp) (fun x hx => by rw [List.mem_singleton.1 hx]; omega) (rdBB_one hrow (Nat.le_refl _))).mono ?_
      rintro e w3 ⟨rfl, hb3⟩
      have hb3' := bx_trans (bx_alloc hbr _) hb3
      have hrl3 := hr.below hb3'
      go_wp2_with fail
      refine (crcOf_any _ _ _ [l] (by simp) (fun x hx => by rw [List.mem_singleton.1 hx]; omega) (rdBB_one (RdB.of hrl3 hc) hb3'.size)).mono ?_
      rintro e w4 ⟨rfl, hb4⟩
      simp only [List.flatten_cons, List.flatten_nil, List.append_nil]
      have hb4' := bx_trans (bx_alloc hb3' _) hb4
      by_cases hz : B = 0
      · have he : crc y = crc l := HIFF.out.2 hz
        subst hz
        rw [he]
        go_wp2
        go_ret
        exact ⟨rfl, hb4'⟩
      · have hne : ¬ crc y = crc l := fun h => hz (HIFF.out.1 h)
        have e1 : (((crc y : Nat) : Int) == ((crc l : Nat) : Int)) = false := by simp; omega
        have e2 : ((B : Int) == 0) = false := by simp; omega
        go_wp2
        go_ret
        exact ⟨rfl, hb4'⟩
end Go.Proofs.Ythhijbnmljndeaa
