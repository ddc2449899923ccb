
/- octet: Num, Raw, Bytes, Hash of the reader. -/
import Derived.Test.YtlpdiamgpnmeoaaOctD
namespace Go.Proofs.Ytlpdiamgpnmeoaa
open Go.RowKit
set_option linter.unusedVariables false

theorem foldV_snoc (l : List UInt8) (c : UInt8) : foldV (l ++ [c]) = foldV l * 256 + c.toNat := by simp [foldV]
theorem foldl_lt : ∀ (l : List UInt8) (x : Nat), l.foldl (fun x c => x * 256 + c.toNat) x < (x + 1) * 256 ^ l.length
  | [], x => by simp
  | c :: l, x => by
    have ih := foldl_lt l (x * 256 + c.toNat)
    have hc := c.toNat_lt
    simp only [List.foldl_cons, List.length_cons]
    refine Nat.lt_of_lt_of_le ih ?_
    rw [Nat.pow_succ, Nat.mul_comm (256 ^ l.length) 256, ← Nat.mul_assoc]
    exact Nat.mul_le_mul_right _ (by omega)
theorem foldV_lt (l : List UInt8) : foldV l < 256 ^ l.length := by
  have := foldl_lt l 0
  simpa [foldV] using this
theorem takeV_len (s : RS) (n : Nat) : (takeV s n).length ≤ n := by
  unfold takeV
  split
  · split
    · simp
    · rw [List.length_take]; omega
  · simp
theorem pow8 {k : Nat} (h : k < 8) : 256 ^ k ≤ 72057594037927936 := Nat.le_trans (Nat.pow_le_pow_right (by decide) (show k ≤ 7 by omega)) (by decide)
theorem shl8 (X : Nat) (h : X < 72057594037927936) : IntKind.u64.wrap ((X : Int) * 256) = ((X * 256 : Nat) : Int) := by
  simp [IntKind.wrap, IntKind.bits, IntKind.signed]
  omega
theorem or8 (X c : Nat) (h : X < 72057594037927936) (hc : c < 256) : bits BinOp.or IntKind.u64 ((X * 256 : Nat) : Int) (c : Int) = ((X * 256 + c : Nat) : Int) := by
  rw [u64_or_nat _ _ (by omega) (by omega)]
  congr 1
  rw [show X * 256 = 2 ^ 8 * X from by omega, ← Nat.two_pow_add_eq_or_of_lt (by omega)]
set_option maxRecDepth 100000 in
set_option maxHeartbeats 800000 in
theorem RNum_any (w : World) {g : Nat} {s : RS} {A : Option Addr} {c : Nat} (h : IsR w g s A c) (n : Int) :
    Calls Try.prog 38 #[.pointer (some ⟨g, 0, none⟩), .int .i64 n] w fun e w' => e = .returned (.int .u64 (numV s n : Int)) ∧ Rr w' g (numS s n) ∧ w.grownBy w' (some g) := by
  unfold numV numS
  by_cases hm : mayB n = true
  · rw [if_pos hm, if_pos hm]
    have hm2 := hm
    simp only [mayB, Bool.and_eq_true, decide_eq_true_eq] at hm2
    obtain ⟨n1, n8⟩ := hm2
    obtain ⟨m, rfl⟩ := Int.eq_ofNat_of_zero_le (show 0 ≤ n by omega)
    rw [Int.toNat_natCast]
    go_enter Try.func38, Try.ntmps38
    go_wp2_with fail
    refine (may_any w _).mono ?_
    rintro e w1 ⟨rfl, rfl⟩
    rw [hm]
    clear hm
    go_wp2_with fail
    refine (Rtake_any w h m (by omega)).mono ?_
    rintro e w1 ⟨v, rfl, hv, hR, hG⟩
    have hlen := takeV_len s m
    obtain ⟨l, hl⟩ : ∃ l, l = takeV s m := ⟨_, rfl⟩
    rw [← hl] at hv hlen
    have HL := hid hl
    have HR := hid hR
    have HG := hid hG
    clear hl hR hG
    obtain ⟨A1, c1, rfl, hlc, _, hrd, _⟩ := hv
    go_wp2
    go_loopw [5, 19] (fun x j wr => ∃ k : Nat, k ≤ l.length ∧ j = .int .i64 k ∧ x = .int .u64 (foldV (l.take k) : Int) ∧ wr = w1) (fun _ j _ => l.length - (intOf j).toNat)
    case atStart => exact ⟨0, by omega, rfl, rfl, rfl⟩
    case round =>
      obtain ⟨k, hk, rfl, rfl, rfl⟩ := hrel
      by_cases hlt : k < l.length
      · obtain ⟨b, off, rfl, hbb, hd⟩ := hrd.at_ (k := k) (by simpa using hlt)
        have hcell : wr.cell? ⟨b, off + k, none⟩ = some (.int .u8 (l[k].toNat : Int)) := hd k _ (by simp [cb, hlt])
        have hy8 := l[k].toNat_lt
        have hts : foldV (l.take (k + 1)) = foldV (l.take k) * 256 + l[k].toNat := by rw [List.take_succ_eq_append_getElem hlt, foldV_snoc]
        have hX : foldV (l.take k) < 72057594037927936 := by
          have h1 := foldV_lt (l.take k)
          have h2 : (l.take k).length = k := by rw [List.length_take]; omega
          rw [h2] at h1
          have := pow8 (k := k) (by omega)
          omega
        have hsl := shl8 _ hX
        have hor := or8 _ _ hX hy8
        have HTS := hid hts
        clear hd hts hrd
        generalize foldV (l.take k) = X at *
        generalize l[k].toNat = y at *
        obtain ⟨Y, hY⟩ : ∃ Y, Y = X * 256 := ⟨_, rfl⟩
        obtain ⟨Z, hZ⟩ : ∃ Z, Z = X * 256 + y := ⟨_, rfl⟩
        rw [← hZ] at hor
        rw [← hY] at hsl hor
        have HZ := hid hZ
        have hw8 : IntKind.u64.wrap (y : Int) = (y : Int) := by
          simp [IntKind.wrap, IntKind.bits, IntKind.signed]
          omega
        clear hY hZ
        go_wp2
        go_roundw
        case rel => exact ⟨k + 1, by omega, by go_num, by rw [HTS.out, HZ.out], by first | rfl | trivial⟩
        case measure => simp [intOf]; omega
      · obtain rfl : k = l.length := by omega
        rw [List.take_length]
        go_wp2
        go_ret
        exact ⟨by rw [← HL.out]; rfl, HR.out, HG.out⟩
  · rw [if_neg hm, if_neg hm]
    have hm' : mayB n = false := by simpa using hm
    clear hm
    go_enter Try.func38, Try.ntmps38
    go_wp2_with fail
    refine (may_any w _).mono ?_
    rintro e w1 ⟨rfl, rfl⟩
    rw [hm']
    go_wp2_with fail
    refine (Rarg_any w h).mono ?_
    rintro e w1 ⟨rfl, hR, hG⟩
    go_wp2
    go_ret
    exact ⟨rfl, ⟨A, c, hR⟩, hG⟩
set_option maxHeartbeats 400000 in
theorem RNum_nil (w : World) (n : Int) : Calls Try.prog 38 #[.pointer none, .int .i64 n] w fun e w' => e = .returned (.int .u64 0) ∧ w = w' := by
  go_enter Try.func38, Try.ntmps38
  go_wp2
  go_ret
  exact ⟨rfl, rfl⟩
/-- What a call has read, in memory of its own. -/
theorem own_slO {w : World} {base : Nat} {v : Value} {l : List UInt8} (h : w.ownsRow base 5 1 v l.length (l.map cb)) : SlO w v l := by
  obtain ⟨A, c, rfl, h2, h3, h4⟩ := own_form h
  exact ⟨A, c, rfl, h2, h3, h4, own_out h rfl⟩
theorem takeS_len (s : RS) (n : Nat) : (takeS s n).b.length ≤ s.b.length := by
  unfold takeS
  split
  · split
    · exact Nat.le_refl _
    · show (s.b.drop n).length ≤ _
      rw [List.length_drop]; omega
  · exact Nat.le_refl _
theorem argS_b (s : RS) : (argS s).b = s.b := by unfold argS; split <;> rfl
theorem numS_len (s : RS) (n : Int) : (numS s n).b.length ≤ s.b.length := by
  unfold numS
  split
  · exact takeS_len _ _
  · rw [argS_b]; exact Nat.le_refl _
theorem numV_lt (s : RS) (n : Int) : numV s n < 18446744073709551616 := by
  unfold numV
  split
  · rename_i h
    simp only [mayB, Bool.and_eq_true, decide_eq_true_eq] at h
    have h1 := foldV_lt (takeV s n.toNat)
    have h2 := takeV_len s n.toNat
    have h3 : (256 : Nat) ^ (takeV s n.toNat).length ≤ 256 ^ 8 := Nat.pow_le_pow_right (by decide) (by omega)
    have h4 : (256 : Nat) ^ 8 = 18446744073709551616 := by decide
    omega
  · omega
theorem numV2_lt (s : RS) : numV s 2 < 65536 := by
  unfold numV
  rw [if_pos (by decide)]
  have h1 := foldV_lt (takeV s (2 : Int).toNat)
  have h2 := takeV_len s (2 : Int).toNat
  have h3 : (256 : Nat) ^ (takeV s (2 : Int).toNat).length ≤ 256 ^ 2 := Nat.pow_le_pow_right (by decide) h2
  have h4 : (256 : Nat) ^ 2 = 65536 := by decide
  omega
theorem bytes_err {s : RS} {most : Int} (h : (numS s 2).e ≠ 0) : bytesV s most = [] ∧ bytesS s most = numS s 2 := by
  unfold bytesV bytesS
  rw [if_pos h, if_pos h]
  exact ⟨rfl, rfl⟩
theorem bytes_big {s : RS} {most : Int} (h : (numS s 2).e = 0) (h2 : most < 0 ∨ most < (numV s 2 : Int)) : bytesV s most = [] ∧ bytesS s most = { numS s 2 with e := 13 } := by
  unfold bytesV bytesS
  simp only [h, ne_eq, not_true_eq_false, if_false, if_pos h2, and_self]
theorem bytes_ok {s : RS} {most : Int} (h : (numS s 2).e = 0) (h2 : ¬ (most < 0 ∨ most < (numV s 2 : Int))) : bytesV s most = rawV (numS s 2) (numV s 2 : Int) ∧ bytesS s most = rawS (numS s 2) (numV s 2 : Int) := by
  unfold bytesV bytesS
  simp only [h, ne_eq, not_true_eq_false, if_false, if_neg h2, and_self]
end Go.Proofs.Ytlpdiamgpnmeoaa
