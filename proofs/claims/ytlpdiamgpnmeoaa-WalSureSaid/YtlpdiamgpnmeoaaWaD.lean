
/- Records: what a super tells; an area's first block. -/
import Derived.Test.YtlpdiamgpnmeoaaWaC
import Derived.OwnWalk
namespace Go.Proofs.Ytlpdiamgpnmeoaa
open Go.RowKit
set_option linter.unusedVariables false
abbrev tLog : Nat := 61
theorem results_tmp4 {fn : Func} {t u v x : Tmp} (h : fn.results = #[.tmp t, .tmp u, .tmp v, .tmp x]) (tmps : Array Value) (P : Program) (w : World) :
    (results fn tmps).run P w = .ok (.tuple #[tmps.getD t undef, tmps.getD u undef, tmps.getD v undef, tmps.getD x undef]) w := by
  simp [results, h]
/-- A super's turn, area, tail. -/
def tOf (b : List UInt8) : Nat := foldV (b.take 8)
def aOf (b : List UInt8) : Nat := foldV ((b.drop 8).take 1)
def lOf (b : List UInt8) : Nat := foldV ((b.drop 9).take 4)
/-- Does a super count? -/
def isS (size : Nat) (b : List UInt8) : Bool := decide (0 < tOf b) && decide (aOf b < 2) && decide (lOf b ≤ size * 256) && (b == superL (tOf b) (aOf b) (lOf b))
theorem take_all {b : List UInt8} {n : Nat} (h : n ≤ b.length) : takeV ⟨b, 0⟩ n = b.take n ∧ takeS ⟨b, 0⟩ n = ⟨b.drop n, 0⟩ := by
  constructor
  · unfold takeV
    rw [if_pos rfl, if_neg (by show ¬ b.length < n; omega)]
  · unfold takeS
    rw [if_pos rfl, if_neg (by show ¬ b.length < n; omega)]
theorem num_of {b : List UInt8} {n : Int} (hm : mayB n = true) (h : n.toNat ≤ b.length) : numV ⟨b, 0⟩ n = foldV (b.take n.toNat) ∧ numS ⟨b, 0⟩ n = ⟨b.drop n.toNat, 0⟩ := by
  unfold numV numS
  rw [if_pos hm, if_pos hm, (take_all h).1, (take_all h).2]
  exact ⟨rfl, rfl⟩
theorem super_three {b : List UInt8} (h : b.length = 256) : numV ⟨b, 0⟩ 8 = tOf b ∧ numV (numS ⟨b, 0⟩ 8) 1 = aOf b ∧ numV (numS (numS ⟨b, 0⟩ 8) 1) 4 = lOf b := by
  obtain ⟨e1, e2⟩ := num_of (b := b) (n := 8) (by decide) (by show 8 ≤ _; omega)
  obtain ⟨e3, e4⟩ := num_of (b := b.drop 8) (n := 1) (by decide) (by show 1 ≤ _; rw [List.length_drop]; omega)
  have e5 : (b.drop 8).drop 1 = b.drop 9 := by rw [List.drop_drop]
  obtain ⟨e6, e7⟩ := num_of (b := b.drop 9) (n := 4) (by decide) (by show 4 ≤ _; rw [List.length_drop]; omega)
  refine ⟨e1, ?_, ?_⟩
  · rw [e2]
    exact e3
  · rw [e2]
    show numV (numS ⟨b.drop 8, 0⟩ 1) 4 = _
    rw [e4]
    show numV ⟨(b.drop 8).drop 1, 0⟩ 4 = _
    rw [e5]
    exact e6
theorem tOf_lt (b : List UInt8) : tOf b < 18446744073709551616 := by
  have h := foldV_lt (b.take 8)
  have hp : 256 ^ (b.take 8).length ≤ 256 ^ 8 := Nat.pow_le_pow_right (by decide) (by rw [List.length_take]; omega)
  unfold tOf
  omega
theorem aOf_lt (b : List UInt8) : aOf b < 256 := by
  have h := foldV_lt ((b.drop 8).take 1)
  have hp : 256 ^ ((b.drop 8).take 1).length ≤ 256 ^ 1 := Nat.pow_le_pow_right (by decide) (by rw [List.length_take]; omega)
  unfold aOf
  omega
theorem lOf_lt (b : List UInt8) : lOf b < 4294967296 := by
  have h := foldV_lt ((b.drop 9).take 4)
  have hp : 256 ^ ((b.drop 9).take 4).length ≤ 256 ^ 4 := Nat.pow_le_pow_right (by decide) (by rw [List.length_take]; omega)
  unfold lOf
  omega
set_option maxHeartbeats 1000000 in
theorem Equal_any (w : World) {A A' : Option Addr} {c c' B B' : Nat} {l l' : List UInt8} (hr : Rd w B A (l.map cb)) (hr' : Rd w B' A' (l'.map cb)) :
    Calls Try.prog 39 #[.slice A l.length c, .slice A' l'.length c'] w fun e w' => e = .returned (.bool (l == l')) ∧ Below w.heap.size w w' := by
  have hc1 := conv_str (P := Try.prog) (src := 23) (dst := 9) Try.underlying23 Try.underlying5 Try.underlying9 c hr
  have hc2 := conv_str (P := Try.prog) (src := 23) (dst := 9) Try.underlying23 Try.underlying5 Try.underlying9 c' hr'
  clear hr hr'
  go_enter Try.func39, Try.ntmps39
  go_wp2
  go_ret
  exact ⟨rfl, Below.refl _ _⟩
set_option maxRecDepth 100000 in
set_option maxHeartbeats 1000000 in
theorem first_any (w : World) {gl size area : Nat} {cs : Array Value} (hblk : Blk w gl tLog cs) (h1 : cs[1]? = some (.int .i64 (size : Int))) (hs : size ≤ 1000000) (ha : area ≤ 2) :
    Calls Try.prog 28 #[.pointer (some ⟨gl, 0, none⟩), .int .i64 (area : Int)] w fun e w' => e = .returned (.int .i64 ((2 + area * size : Nat) : Int)) ∧ w = w' := by
  have c1 : w.cell? ⟨gl, 1, none⟩ = some (.int .i64 (size : Int)) := by rw [hblk.cell 1]; exact h1
  have hm : area * size ≤ 2 * 1000000 := Nat.mul_le_mul ha hs
  have hc : ((area * size : Nat) : Int) = (area : Int) * (size : Int) := by push_cast; rfl
  obtain ⟨p, hp⟩ : ∃ p : Nat, p = area * size := ⟨_, rfl⟩
  rw [← hp] at hc hm
  have hpi : (area : Int) * (size : Int) = (p : Int) := hc.symm
  have HP := hid hp
  clear hp hc h1 hblk
  go_enter Try.func28, Try.ntmps28
  go_wp2_with fail
  go_ret
  exact ⟨by rw [← HP.out]; rfl, rfl⟩
theorem readAt_len {D : DS} (h : D.Ok) (i : Int) : (readAt D i).length = 256 := readL_length h.l256 i (goodAt_length h i)
set_option maxRecDepth 100000 in
set_option maxHeartbeats 2000000 in
theorem counts_any (w : World) {B g : Nat} {D : DS} (h : IsDisk w B g D) (hB : B ≤ w.heap.size) {gl size : Nat} {cs : Array Value} (hblk : Blk w gl tLog cs) (h0 : cs[0]? = some (.pointer (some ⟨g, 0, none⟩))) (h1 : cs[1]? = some (.int .i64 (size : Int))) (hs : size ≤ 1000000) (i : Int) (he : readE D i = 0) :
    Calls Try.prog 26 #[.pointer (some ⟨gl, 0, none⟩), .int .i64 i] w fun e w' => e = .returned (.tuple #[.int .u64 (tOf (readAt D i) : Int), .int .i64 (aOf (readAt D i) : Int), .int .i64 (lOf (readAt D i) : Int), .bool (isS size (readAt D i))]) ∧ Below w.heap.size w w' := by
  have c0 : w.cell? ⟨gl, 0, none⟩ = some (.pointer (some ⟨g, 0, none⟩)) := by rw [hblk.cell 0]; exact h0
  have c1 : w.cell? ⟨gl, 1, none⟩ = some (.int .i64 (size : Int)) := by rw [hblk.cell 1]; exact h1
  have hgl := hblk.lt
  have hok : D.Ok := h.choose_spec.choose_spec.choose_spec.ok
  have hlen := readAt_len hok i
  obtain ⟨b, hb⟩ : ∃ b, b = readAt D i := ⟨_, rfl⟩
  have hrv : readV D i = b := by unfold readV; rw [if_pos he, hb]
  have HC := hid (Read_any w h hB i)
  rw [he, hrv] at HC
  rw [← hb] at hlen ⊢
  obtain ⟨n1, n2, n3⟩ := super_three hlen
  have N1 := hid n1
  have N2 := hid n2
  have N3 := hid n3
  have HLN := hid hlen
  have htl := tOf_lt b
  have hal := aOf_lt b
  have hll := lOf_lt b
  unfold isS
  obtain ⟨t, ht⟩ : ∃ t, t = tOf b := ⟨_, rfl⟩
  obtain ⟨a, ha⟩ : ∃ a, a = aOf b := ⟨_, rfl⟩
  obtain ⟨l, hl⟩ : ∃ l, l = lOf b := ⟨_, rfl⟩
  rw [← ht] at htl N1 ⊢
  rw [← ha] at hal N2 ⊢
  rw [← hl] at hll N3 ⊢
  have hai : (a : Int) < 256 := by omega
  have hli : (l : Int) < 4294967296 := by omega
  have hsi : (size : Int) ≤ 1000000 := by omega
  obtain ⟨Z, hZ⟩ : ∃ Z, Z = (decide (0 < t) && decide (a < 2) && decide (l ≤ size * 256) && (b == superL t a l)) := ⟨_, rfl⟩
  rw [← hZ]
  have HZ := hid hZ
  clear ht ha hl hrv he hb h hblk n1 n2 n3 hlen hZ
  go_enter Try.func26, Try.ntmps26
  go_wp2_with fail
  refine HC.out.mono ?_
  rintro e w1 ⟨v, rfl, ⟨A, c, rfl, hbc, hrd, _⟩, hb1⟩
  have HRD := hid hrd
  clear hrd c0
  have c1' := (hb1.cell (p := ⟨gl, 1, none⟩) hgl).trans c1
  go_wp2_with fail
  refine (NewReader_any w1 HRD.out (by rw [HLN.out]; omega)).mono ?_
  rintro e w2 ⟨r, rfl, ⟨A2, c2, hR2⟩, hr2, hb2⟩
  have hrw : w.heap.size ≤ r := Nat.le_trans hb1.size hr2
  have hb02 := bx_trans hb1 hb2
  have hx := HRD.out.below hb2
  have hk : Below w1.heap.size w1 w2 := hb2
  go_wp2_with fail
  refine (RNum_any w2 hR2 8).mono ?_
  rintro e w3 ⟨rfl, ⟨A3, c3, hR3⟩, hG3⟩
  have hb03 := hb02.trans (below_rg hG3 hrw hb02.size)
  have hk3 := hk.trans (below_rg hG3 hr2 hk.size)
  rw [N1.out]
  clear hG3 hR2
  go_wp2_with fail
  refine (RNum_any w3 hR3 1).mono ?_
  rintro e w4 ⟨rfl, ⟨A4, c4, hR4⟩, hG4⟩
  have hb04 := hb03.trans (below_rg hG4 hrw hb03.size)
  have hk4 := hk3.trans (below_rg hG4 hr2 hk3.size)
  rw [N2.out]
  clear hG4 hR3
  go_wp2_with fail
  refine (RNum_any w4 hR4 4).mono ?_
  rintro e w5 ⟨rfl, _, hG5⟩
  have hb05 := hb04.trans (below_rg hG5 hrw hb04.size)
  have hk5 := hk4.trans (below_rg hG5 hr2 hk4.size)
  rw [N3.out]
  have c5 := (hb05.cell (p := ⟨gl, 1, none⟩) hgl).trans c1
  have HX := hid (HRD.out.below hk5)
  clear hG5 hR4 c1 c1' hb1 hb2 hb02 hb03 hb04 hk hk3 hk4 hx N1 N2 N3
  by_cases q1 : 0 < t
  · have q1i : (0 : Int) < (t : Int) := by omega
    by_cases q2 : a < 2
    · have q2i : (a : Int) < 2 := by omega
      by_cases q3 : l ≤ size * 256
      · have q3i : (l : Int) ≤ (size : Int) * 256 := by omega
        have hz : Z = (b == superL t a l) := by rw [HZ.out, decide_eq_true q1, decide_eq_true q2, decide_eq_true q3]; rfl
        have HZ1 := hid hz
        clear hz
        have hae : (a : Int) % 18446744073709551616 = a := by omega
        go_wp2_with fail
        refine (super_any w5 htl (by omega) (by omega)).mono ?_
        rintro e w6 ⟨v6, rfl, hown6, hb6⟩
        obtain ⟨A6, c6, rfl, hc6, hm6, hr6⟩ := own_form hown6
        have hb06 := bx_trans hb05 hb6
        have hx6 := HX.out.below (hb6.mono (Nat.le_trans hk5.size (Nat.le_refl _)))
        have HX6 := hid hx6
        have HR6 := hid hr6
        clear hown6 hr6 hx6
        go_wp2_with fail
        refine (Equal_any w6 HX6.out HR6.out).mono ?_
        rintro e w7 ⟨rfl, hb7⟩
        have hb07 := bx_trans hb06 hb7
        obtain ⟨bq, hbq⟩ : ∃ x : Bool, x = (b == superL t a l) := ⟨_, rfl⟩
        rw [← hbq]
        have HBQ := hid hbq
        clear hbq hb06 hb6 hb7
        go_wp2_with fail
        exact bodyPost_ret (results_tmp4 rfl _ _ _) rfl ⟨by rw [HZ1.out, ← HBQ.out]; rfl, hb07⟩
      · have q3i : ¬ (l : Int) ≤ (size : Int) * 256 := by omega
        have HZ1 : Hid (Z = false) := hid (by rw [HZ.out, decide_eq_false q3, Bool.and_false, Bool.false_and])
        obtain ⟨ai, hx1⟩ : ∃ x : Int, x = (a : Int) := ⟨_, rfl⟩
        obtain ⟨li, hx2⟩ : ∃ x : Int, x = (l : Int) := ⟨_, rfl⟩
        rw [← hx1, ← hx2]
        have b1 : 0 ≤ ai := by omega
        have b2 : ai < 256 := by omega
        have b3 : 0 ≤ li := by omega
        have b4 : li < 4294967296 := by omega
        have q3j : ¬ li ≤ (size : Int) * 256 := by omega
        have q2j : ai < 2 := by omega
        clear q3i q2i q3
        have HX1 := hid hx1
        have HX2 := hid hx2
        clear hx1 hx2 hal hll htl hai hli q1 q2
        go_wp2_with fail
        exact bodyPost_ret (results_tmp4 rfl _ _ _) rfl ⟨by rw [HZ1.out]; simp [HX1.out, HX2.out], hb05⟩
    · have q2i : ¬ (a : Int) < 2 := by omega
      have HZ1 : Hid (Z = false) := hid (by rw [HZ.out, decide_eq_false q2, Bool.and_false, Bool.false_and, Bool.false_and])
      obtain ⟨ai, hx1⟩ : ∃ x : Int, x = (a : Int) := ⟨_, rfl⟩
      obtain ⟨li, hx2⟩ : ∃ x : Int, x = (l : Int) := ⟨_, rfl⟩
      rw [← hx1, ← hx2]
      have b1 : 0 ≤ ai := by omega
      have b2 : ai < 256 := by omega
      have b3 : 0 ≤ li := by omega
      have b4 : li < 4294967296 := by omega
      have q2j : ¬ ai < 2 := by omega
      clear q2i
      have HX1 := hid hx1
      have HX2 := hid hx2
      clear hx1 hx2 hal hll htl hai hli q1 q2
      go_wp2_with fail
      exact bodyPost_ret (results_tmp4 rfl _ _ _) rfl ⟨by rw [HZ1.out]; simp [HX1.out, HX2.out], hb05⟩
  · have q1i : ¬ (0 : Int) < (t : Int) := by omega
    have HZ1 : Hid (Z = false) := hid (by rw [HZ.out, decide_eq_false q1, Bool.false_and, Bool.false_and, Bool.false_and])
    go_wp2_with fail
    exact bodyPost_ret (results_tmp4 rfl _ _ _) rfl ⟨by rw [HZ1.out]; simp, hb05⟩
end Go.Proofs.Ytlpdiamgpnmeoaa
