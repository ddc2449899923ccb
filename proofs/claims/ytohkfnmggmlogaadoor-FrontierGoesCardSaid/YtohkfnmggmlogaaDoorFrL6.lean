
/- FrontierGoes: its walk. -/
import Derived.Test.YtohkfnmggmlogaaDoorFrR
import Derived.OpenShut
namespace Go.Proofs.YtohkfnmggmlogaaDoor
open Go.RowKit
set_option linter.unusedVariables false
set_option maxRecDepth 100000 in
set_option maxHeartbeats 1000000 in
theorem FrontierGoes_walk (w : World) (hL : Laid w) (s0 : Int) (hs0 : (Lit.int .u32 s0).wf = true) (A0 : Option Addr) (c0 : Nat) (ls : List (List UInt8)) (hc0 : ls.length ≤ c0) (hm0 : c0 ≤ maxLen) (h32 : ∀ l ∈ ls, l.length = 32) (hr0 : Rd w w.heap.size A0 (ls.flatten.map cb)) (y : Int) (hy : (Lit.int .u8 y).wf = true) :
    Calls Tryd.prog 8 #[.int .u32 s0, .slice A0 ls.length c0, .int .u8 y] w fun e w' => e = .returned (.bool true) ∧ Below w.heap.size w w' := by
  have hbs := bounds_u32 hs0
  obtain ⟨s, rfl⟩ := Int.eq_ofNat_of_zero_le hbs.1
  have hs : s < 4294967296 := by omega
  have hba := bounds_u8 hy
  obtain ⟨a, rfl⟩ := Int.eq_ofNat_of_zero_le hba.1
  have ha : a < 256 := by omega
  obtain ⟨z, hz⟩ : ∃ z, z = a % 20 := ⟨_, rfl⟩
  have hz20 : z < 20 := by omega
  have hzr : (a : Int).tmod 20 = (z : Int) := (Int.tmod_eq_emod_of_nonneg (by omega)).trans (by omega)
  have hzc : IntKind.i64.wrap (z : Int) = (z : Int) := wr_i64 _ (by omega) (by omega)
  have hzc8 : IntKind.u8.wrap (z : Int) = (z : Int) := by simp only [IntKind.wrap, IntKind.bits, IntKind.signed]; simp; omega
  have hsc : IntKind.u64.wrap (s : Int) = (s : Int) := u64_len s (by omega)
  have HL := hid hL
  have HR := hid hr0
  have H32 := hid h32
  clear hL hr0 h32 hs0 hy hba hbs hz
  unfold maxLen at hm0
  obtain ⟨m, hm⟩ : ∃ m, m = ls.length := ⟨_, rfl⟩
  have HM := hid hm
  rw [← hm] at hc0 ⊢
  clear hm
  go_enter Tryd.func8, Tryd.ntmps8
  go_wp2_with fail
  refine (frAwake w HL.out).mono ?_
  rintro e w1 ⟨rfl, hb1⟩
  have hbs1 := hb1.size
  by_cases hlen : 40 < m
  · go_wp2
    go_ret
    exact ⟨rfl, hb1⟩
  by_cases hom : ones s = m
  · have HOK := hid (From_ok w1 A0 c0 s m (hs := ls) (by omega) (by omega) hom HM.out.symm ((HR.out.below hb1).more hb1.size) H32.out)
    have hol : ls.reverse.length = m := by rw [List.length_reverse, ← HM.out]
    have hos : ls.reverse.length = ones s := by rw [hol, hom]
    have HOS := hid hos
    clear hol hos hom
    generalize ls.reverse = st0 at *
    go_wp2_with fail
    refine HOK.out.mono ?_
    rintro e w2 ⟨g, A2, c2, rfl, hF2, hb2⟩
    have hb02 := bx_trans hb1 hb2
    have HF2 := hid hF2
    obtain ⟨B, hB⟩ : ∃ B, B = w1.heap.size := ⟨_, rfl⟩
    rw [← hB] at HF2 hbs1
    clear hF2 hb2 hb1 HOK hB
    go_wp2
    have hbt : decide (40 < m) = false := decide_eq_false (by omega)
    try rw [hbt]
    clear hbt
    go_loopw [10, 11, 12] (fun v10 v11 v12 wr => ∃ (i : Nat) (st : List (List UInt8)) (A : Option Addr) (c : Nat), i ≤ z ∧ v10 = .int .i64 (i : Int) ∧ IsF wr B g (s + i) st A c ∧ st.length = ones (s + i) ∧ Below w.heap.size w wr) (fun v10 _ _ _ => z - (intOf v10).toNat)
    case atStart => exact ⟨0, st0, A2, c2, Nat.zero_le _, rfl, HF2.out, HOS.out, hb02⟩
    case round =>
      clear hb02 HF2 HOS
      obtain ⟨i, st, A, c, hi, rfl, hF, hon, hbr⟩ := hrel
      rename World => wr
      by_cases hlt : i < z
      · have hu8 : IntKind.u8.wrap (i : Int) = (i : Int) := by simp only [IntKind.wrap, IntKind.bits, IntKind.signed]; simp; omega
        obtain ⟨wq, hwq⟩ : ∃ wq, wq = wr.alloc (.cells #[.int .u8 (i : Int)] 5) := ⟨_, rfl⟩
        have hbq : Below wr.heap.size wr wq := by rw [hwq]; exact bx_alloc (Below.refl _ _) _
        have hFq := hF.below hbq
        have hrdq : Rd wq wq.heap.size (some ⟨wr.heap.size, 0, none⟩) ([UInt8.ofNat i].map cb) := by rw [hwq]; exact rd_of_row (heap_new rfl) (by rw [List.map_cons, List.map_nil, ofNat_u8 (by omega)])
        have hbrq := bx_trans hbr hbq
        have hgl := hFq.blk.lt
        have hgB := hFq.gB
        have hlen2 := fadd_len st (s + i) (leafL [UInt8.ofNat i]) hon
        have HADD := hid (Add_any wq (w0 := w) HL.out hbrq hbs1 hFq (by omega) hon (by omega) hrdq (Nat.le_refl _) (Nat.le_refl 1) (by simp))
        have hiz : (i : Int) < (z : Int) := by omega
        have HLEN := hid hlen2
        have HWQ := hid hwq
        clear hF hFq hrdq hbq hlen2 hwq
        generalize fadd (s + i) st (leafL [UInt8.ofNat i]) = st1 at *
        go_wp2_with fail
        rw [← HWQ.out]
        refine HADD.out.mono ?_
        rintro e w4 ⟨rfl, A4, c4, hgo⟩
        have hF4 := hgo.isF
        have hb4 := hbrq.trans (hgo.below.mono hbs1)
        have HF4 := hid hF4
        clear hgo hF4 HADD
        go_wp2_with fail
        refine (Size_any w4 HF4.out).mono ?_
        rintro e w5 ⟨rfl, rfl⟩
        obtain ⟨S, hS⟩ : ∃ S, S = s + i + 1 := ⟨_, rfl⟩
        have HS := hid hS
        have hS64 : S < 4294967400 := by omega
        rw [← hS] at HF4 HLEN ⊢
        clear hS
        go_wp2
        have hS64b := ones_le 33 S (by omega)
        go_loopw [11, 12] (fun v11 v12 wq => ∃ (x k : Nat), v12 = .int .u64 (x : Int) ∧ v11 = .int .i64 (k : Int) ∧ k + ones x = ones S ∧ x ≤ S ∧ wq = w5) (fun _ v12 _ => (intOf v12).toNat)
        case atStart => exact ⟨S, 0, by rw [HS.out], rfl, Nat.zero_add _, Nat.le_refl _, rfl⟩
        case round =>
          obtain ⟨x, k, rfl, rfl, hk, hxS, rfl⟩ := hrel
          by_cases hx0 : x = 0
          · subst hx0
            rw [ones_zero, Nat.add_zero] at hk
            have hw1 : IntKind.u64.wrap (s : Int) = (s : Int) := u64_len s (by omega)
            have hw2 : IntKind.u64.wrap (i : Int) = (i : Int) := u64_len i (by omega)
            have hw3 : IntKind.u64.wrap ((s : Int) + (i : Int)) = ((s + i : Nat) : Int) := u64_len (s + i) (by omega)
            have hw4 : IntKind.u64.wrap (((s + i : Nat) : Int) + 1) = (S : Int) := by rw [show ((s + i : Nat) : Int) + 1 = (S : Int) by have := HS.out; omega]; exact u64_len S (by omega)
            have hsS : (s : Int) + (i : Int) + 1 = (S : Int) := by have := HS.out; omega
            have HK := hid hk
            have hl1 : st1.length = k := by rw [HLEN.out, hk]
            have HPK := hid (Peaks_any _ HF4.out (by omega))
            rw [hl1] at HPK
            generalize st1.reverse.flatten.map cb = xs at HPK
            have HL1 := hid hl1
            clear hk hl1
            go_wp2_with fail
            refine (Size_any _ HF4.out).mono ?_
            rintro e w6 ⟨rfl, rfl⟩
            go_wp2_with fail
            refine HPK.out.mono ?_
            rintro e w7 ⟨v7, rfl, hown7, hb7⟩
            obtain ⟨A7, c7, rfl, _, _, _⟩ := own_form hown7
            have hb07 := bx_trans hb4 hb7
            have HF7 := hid (HF4.out.below hb7)
            clear hown7 hb7 HPK
            go_wp2_with fail
            go_roundw
            case rel => exact ⟨i + 1, st1, A4, c4, by omega, by go_num, by rw [show s + (i + 1) = S by have := HS.out; omega]; exact HF7.out, by rw [show s + (i + 1) = S by have := HS.out; omega]; exact HLEN.out, hb07⟩
            case measure => simp [intOf]; omega
          · obtain ⟨r, hr⟩ : ∃ r, r = x % 2 := ⟨_, rfl⟩
            obtain ⟨q, hq⟩ : ∃ q, q = x / 2 := ⟨_, rfl⟩
            have hrm : (x : Int).tmod 2 = (r : Int) := (Int.tmod_eq_emod_of_nonneg (by omega)).trans (by omega)
            have hqd : (x : Int).tdiv 2 = (q : Int) := (Int.tdiv_eq_ediv_of_nonneg (by omega)).trans (by omega)
            have hoe := ones_eq x
            rw [← hr, ← hq] at hoe
            have hr2 : r < 2 := by omega
            have hqx : q < x := by omega
            have hks : k ≤ 33 := by omega
            have hxp : (x : Int) > 0 := by omega
            have HK := hid (show k + r + ones q = ones S by omega)
            clear hr hq hoe hk hx0
            go_wp2_with fail
            go_roundw
            case rel => exact ⟨q, k + r, by go_num, by go_num, HK.out, by omega, by first | rfl | trivial⟩
            case measure => simp only [intOf]; omega
      · obtain rfl : i = z := by omega
        go_wp2
        go_ret
        exact ⟨rfl, hbr⟩
  · have HNO := hid (From_no w1 A0 c0 s m (by omega) (by omega) hom)
    clear hom
    go_wp2_with fail
    refine HNO.out.mono ?_
    rintro e w2 ⟨rfl, rfl⟩
    go_wp2
    go_ret
    exact ⟨rfl, hb1⟩
end Go.Proofs.YtohkfnmggmlogaaDoor
