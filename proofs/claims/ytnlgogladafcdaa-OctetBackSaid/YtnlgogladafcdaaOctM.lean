/- OctetBack: its plain law, and its walk. -/
import Derived.Test.YtnlgogladafcdaaOctJ
import Derived.Test.YtnlgogladafcdaaRowL
namespace Go.Proofs.Ytnlgogladafcdaa
open Go.RowKit
set_option linter.unusedVariables false
def numsW (l : List Nat) : List UInt8 := (l.map fun x => numL x 8).flatten
theorem numsW_len (l : List Nat) : (numsW l).length = 8 * l.length := by
  induction l with
  | nil => rfl
  | cons x r ih =>
    have : numsW (x :: r) = numL x 8 ++ numsW r := rfl
    rw [this, List.length_append, numL_length, ih, List.length_cons]
    omega
theorem short_num {t : List UInt8} (h : t.length < 8) : numV ⟨t, 0⟩ 8 = 0 ∧ (numS ⟨t, 0⟩ 8).e = 10 := by
  have hm : mayB 8 = true := rfl
  unfold numV numS takeV takeS
  rw [if_pos hm, if_pos hm, if_pos rfl, if_pos rfl, if_pos (show (⟨t, 0⟩ : RS).b.length < (8 : Int).toNat from h), if_pos (show (⟨t, 0⟩ : RS).b.length < (8 : Int).toNat from h)]
  exact ⟨rfl, rfl⟩
theorem full_num {x : Nat} (hx : x < 18446744073709551616) (m : List UInt8) : numV ⟨numL x 8 ++ m, 0⟩ 8 = x ∧ numS ⟨numL x 8 ++ m, 0⟩ 8 = ⟨m, 0⟩ := by
  obtain ⟨h1, h2⟩ := num_back (x := x) (size := 8) (by omega) (by omega) m
  have : (256 : Nat) ^ 8 = 18446744073709551616 := by decide
  rw [this, Nat.mod_eq_of_lt hx] at h1
  exact ⟨h1, h2⟩
theorem cut_bytes {b : List UInt8} (h : b.length ≤ 200) {m : Nat} (hm : m < b.length + 2) : bytesV ⟨(bytesW b).take m, 0⟩ 200 = [] ∧ (bytesS ⟨(bytesW b).take m, 0⟩ 200).e = 10 := by
  rw [bytesW_small (by omega)]
  by_cases h2 : m < 2
  · have hs : numS ⟨(numL b.length 2 ++ b).take m, 0⟩ 2 = ⟨(numL b.length 2 ++ b).take m, 10⟩ := by
      have hm2 : mayB 2 = true := rfl
      unfold numS takeS
      rw [if_pos hm2, if_pos rfl, if_pos]
      show ((numL b.length 2 ++ b).take m).length < (2 : Int).toNat
      rw [List.length_take]
      show min m _ < 2
      omega
    obtain ⟨e1, e2⟩ := bytes_err (s := ⟨(numL b.length 2 ++ b).take m, 0⟩) (most := 200) (by rw [hs]; show (10 : Int) ≠ 0; decide)
    rw [e1, e2, hs]
    exact ⟨rfl, rfl⟩
  · have ht : (numL b.length 2 ++ b).take m = numL b.length 2 ++ b.take (m - 2) := by
      rw [List.take_append, numL_length, List.take_of_length_le (by rw [numL_length]; omega)]
    rw [ht]
    obtain ⟨e1, e2⟩ := num_back2 (x := b.length) (by omega) (b.take (m - 2))
    obtain ⟨h1, h2⟩ := bytes_ok (s := ⟨numL b.length 2 ++ b.take (m - 2), 0⟩) (most := 200) (by rw [e2]) (by rw [e1]; omega)
    rw [h1, h2, e1, e2]
    unfold rawV rawS takeV takeS
    have hl : (⟨b.take (m - 2), 0⟩ : RS).b.length < ((b.length : Nat) : Int).toNat := by
      show (b.take (m - 2)).length < _
      rw [List.length_take, Int.toNat_natCast]
      omega
    have hn : ¬ ((b.length : Int) < 0) := by omega
    rw [if_neg hn, if_neg hn, if_pos rfl, if_pos rfl, if_pos hl, if_pos hl]
    exact ⟨rfl, rfl⟩
theorem numsW_snoc (l : List Nat) (x : Nat) : numsW (l ++ [x]) = numsW l ++ numL x 8 := by
  unfold numsW
  rw [List.map_append, List.flatten_append]
  simp
/-- The rest of what was put, behind i numbers. -/
def restW (l : List Nat) (b : List UInt8) (k i : Nat) : List UInt8 := (numsW (l.drop i) ++ bytesW b).take (k - 8 * i)
theorem rest_step {l : List Nat} {b : List UInt8} {k i : Nat} (hi : i < l.length) (hk : 8 * i + 8 ≤ k) : restW l b k i = numL l[i] 8 ++ restW l b k (i + 1) := by
  unfold restW
  rw [List.drop_eq_getElem_cons hi]
  have : numsW (l[i] :: l.drop (i + 1)) = numL l[i] 8 ++ numsW (l.drop (i + 1)) := rfl
  rw [this, List.append_assoc, List.take_append, numL_length, List.take_of_length_le (by rw [numL_length]; omega), show k - 8 * i - 8 = k - 8 * (i + 1) by omega]
theorem rest_short {l : List Nat} {b : List UInt8} {k i : Nat} (hk : k < 8 * i + 8) : (restW l b k i).length < 8 := by
  unfold restW
  rw [List.length_take]
  omega
theorem rest_len (l : List Nat) (b : List UInt8) (k i : Nat) : (restW l b k i).length ≤ k := by
  unfold restW
  rw [List.length_take]
  omega
theorem numsW_nil : numsW [] = [] := rfl
theorem rd_front {w : World} {B : Nat} {A : Option Addr} {l : List UInt8} (h : Rd w B A (l.map cb)) (k : Nat) : Rd w B A ((l.take k).map cb) := by
  rcases h with h | ⟨b, off, he, hb, hd⟩
  · have : l = [] := by simpa using h
    subst this
    exact .inl (by simp)
  · refine .inr ⟨b, off, he, hb, fun i v hv => hd i v ?_⟩
    rw [List.map_take, List.getElem?_take] at hv
    split at hv
    · exact hv
    · cases hv
theorem nb_at {l : List Nat} {i : Nat} (h : i < l.length) : (l.map nb)[i]? = some (.int .u64 (l[i] : Int)) := by simp [nb, h]
set_option maxRecDepth 100000 in
set_option maxHeartbeats 1000000 in
theorem OctetBack_walk (w : World) (A0 : Option Addr) (c0 : Nat) (l0 : List Nat) (hc0 : l0.length ≤ c0) (hm0 : c0 ≤ maxLen) (hx0 : ∀ n ∈ l0, n < 18446744073709551616) (hr0 : Rd w w.heap.size A0 (l0.map nb))
    (A1 : Option Addr) (c1 : Nat) (l1 : List UInt8) (hc1 : l1.length ≤ c1) (hm1 : c1 ≤ maxLen) (hr1 : Rd w w.heap.size A1 (l1.map cb)) (x : Int) (hx : (Lit.int .u16 x).wf = true) :
    Calls Try.prog 5 #[.slice A0 l0.length c0, .slice A1 l1.length c1, .int .u16 x] w fun e w' => e = .returned (.bool true) ∧ Below w.heap.size w w' := by
  have hmm1 := hm1
  unfold maxLen at hm0 hm1
  have hxb : 0 ≤ x ∧ x ≤ 65535 := bounds_u16 hx
  obtain ⟨at_, rfl⟩ := Int.eq_ofNat_of_zero_le hxb.1
  clear hx
  have HR0 := hid hr0
  have HR1 := hid hr1
  have HX := hid hx0
  clear hr0 hr1 hx0
  go_enter Try.func5, Try.ntmps5
  go_wp2_with fail
  refine (awake_any w).mono ?_
  rintro e w1 ⟨rfl, hb1⟩
  by_cases hs0 : 30 < l0.length
  · go_wp2
    go_ret
    exact ⟨rfl, hb1⟩
  by_cases hs1 : 200 < l1.length
  · go_wp2
    go_ret
    exact ⟨rfl, hb1⟩
  go_wp2_with fail
  refine (NewWriter_any w1).mono ?_
  rintro e w2 ⟨g, rfl, hW2, hb2⟩
  have hb02 := bx_trans hb1 hb2
  go_wp2
  go_loopw [9] (fun j wr => ∃ (i : Nat) (A : Option Addr) (c : Nat), i ≤ l0.length ∧ j = .int .i64 i ∧ IsW wr w1.heap.size g (numsW (l0.take i)) A c ∧ Below w1.heap.size w1 wr) (fun j _ => l0.length - (intOf j).toNat)
  case atStart => exact ⟨0, none, 0, by omega, rfl, hW2, hb2⟩
  case round =>
    obtain ⟨i, A, c, hi, rfl, hW, hbr⟩ := hrel
    clear hW2 hb02 hb2
    by_cases hlt : i < l0.length
    · obtain ⟨b, off, rfl, hbb, hd⟩ := (HR0.out.below (bx_trans hb1 hbr)).at_ (k := i) (by simpa using hlt)
      have hcell := hd i _ (nb_at hlt)
      have htk : numsW (l0.take (i + 1)) = numsW (l0.take i) ++ numL l0[i] 8 := by rw [List.take_succ_eq_append_getElem hlt, numsW_snoc]
      have hfl : (numsW (l0.take i)).length ≤ 240 := by rw [numsW_len, List.length_take]; omega
      have HTK := hid htk
      clear htk hd
      generalize l0[i] = y at *
      go_wp2_with fail
      refine (WNum_any wr hW hbr.size y 8 (by omega)).mono ?_
      rintro e w4 ⟨rfl, A4, c4, hG4⟩
      rw [show numW y 8 = numL y 8 from rfl, ← HTK.out] at hG4
      go_wp2
      go_roundw
      case rel => exact ⟨i + 1, A4, c4, by omega, by go_num, hG4.isW, hbr.trans hG4.below⟩
      case measure => simp [intOf]; omega
    · have hil : i = l0.length := by omega
      rw [hil, List.take_length] at hW
      have hr1 := HR1.out.below (bx_trans hb1 hbr)
      have hnl := numsW_len l0
      have hbl := bytesW_len (b := l1) (by omega)
      go_wp2_with fail
      refine (WBytes_any wr hW hbr.size hr1 hc1 hmm1 (sep_rd hW hb1.size hr1) (by omega)).mono ?_
      rintro e w4 ⟨rfl, A4, c4, hG4⟩
      have hall : (numsW l0 ++ bytesW l1).length = 8 * l0.length + l1.length + 2 := by rw [List.length_append]; omega
      have hb4 := bx_trans hb1 (hbr.trans hG4.below)
      obtain ⟨all, hallE⟩ : ∃ all, all = numsW l0 ++ bytesW l1 := ⟨_, rfl⟩
      rw [← hallE] at hG4 hall
      have h442 : all.length ≤ 442 := by omega
      have HALL := hid hallE
      have HLEN := hid hall
      clear hallE hall hnl hbl hr1 hil hlt hi hW hbr
      go_wp2_with fail
      refine (Out_any w4 hG4.isW (by omega)).mono ?_
      rintro e w5 ⟨v, rfl, hown, hb5⟩
      obtain ⟨A5, c5, rfl, hc5, hm5, hrd5, hout5⟩ := own_slO hown
      have hb05 := bx_trans hb4 hb5
      clear hown hG4 hb5 hb4
      obtain ⟨b5, off5, rfl, hbb5, _⟩ := hrd5.at_ (k := 0) (by rw [List.length_map, HLEN.out]; omega)
      obtain ⟨k, hk⟩ : ∃ k, k = at_ % (all.length + 1) := ⟨_, rfl⟩
      have hkl : k ≤ all.length := by have := Nat.mod_lt at_ (show 0 < all.length + 1 by omega); omega
      have hkk : ((at_ : Int) % ((all.length : Int) + 1)) = (k : Int) := by rw [hk]; simp
      have hw1 : IntKind.i64.wrap ((all.length : Int) + 1) = (all.length : Int) + 1 := wr_i64 _ (by omega) (by omega)
      have hw2 : IntKind.i64.wrap (at_ : Int) = (at_ : Int) := wr_i64 _ (by omega) (by omega)
      have hw3 : IntKind.i64.wrap (k : Int) = (k : Int) := wr_i64 _ (by omega) (by omega)
      have hne : ¬ ((all.length : Int) + 1 = 0) := by omega
      unfold maxLen at hm5
      have hrk := rd_front hrd5 k
      have hkt : (all.take k).length = k := by rw [List.length_take]; omega
      have hrest0 : all.take k = restW l0 l1 k 0 := by unfold restW; rw [HALL.out]; rfl
      clear hk
      go_wp2_with fail
      rw [hkk]
      have hNR := NewReader_any w5 (c := c5) hrk (by omega)
      rw [hkt] at hNR
      refine hNR.mono ?_
      rintro e w6 ⟨g6, rfl, ⟨A6, c6, hR6⟩, hg6, hb6⟩
      rw [hrest0] at hR6
      have hb06 := bx_trans hb05 hb6
      have hgw : w.heap.size ≤ g6 := by have := hb05.size; omega
      clear hNR hkt hrest0 hrk hb05 hb6 hrd5 hout5 hkk hw1 hw2 hne
      go_wp2
      go_loopw [13] (fun j wr => ∃ (i : Nat), i ≤ l0.length ∧ 8 * i ≤ k ∧ j = .int .i64 i ∧ Rr wr g6 ⟨restW l0 l1 k i, 0⟩ ∧ Below w.heap.size w wr) (fun j _ => l0.length - (intOf j).toNat)
      case atStart => exact ⟨0, by omega, by omega, rfl, ⟨A6, c6, hR6⟩, hb06⟩
      case round =>
        obtain ⟨i, hi, hik, rfl, ⟨A, c, hR⟩, hbr⟩ := hrel
        clear hR6 hb06
        have hw4 : IntKind.i64.wrap (8 * (i : Int)) = 8 * (i : Int) := wr_i64 _ (by omega) (by omega)
        have hw5 : IntKind.i64.wrap (8 * (i : Int) + 8) = 8 * (i : Int) + 8 := wr_i64 _ (by omega) (by omega)
        by_cases hlt : i < l0.length
        · go_wp2_with fail
          refine (RNum_any wr hR 8).mono ?_
          rintro e w7 ⟨rfl, hR7, hG7⟩
          have hb7 := hbr.trans (below_rg hG7 hgw hbr.size)
          by_cases hsh : k < 8 * i + 8
          · obtain ⟨e1, e2⟩ := short_num (rest_short (l := l0) (b := l1) hsh)
            rw [e1]
            obtain ⟨AR, cR, hR7⟩ := hR7
            clear e1
            go_wp2_with fail
            refine (RErr_any w7 hR7).mono ?_
            rintro e w8 ⟨rfl, rfl⟩
            rw [e2]
            go_wp2
            go_ret
            exact ⟨rfl, hb7⟩
          · obtain ⟨b, off, rfl, hbb, hd⟩ := (HR0.out.below hb7).at_ (k := i) (by simpa using hlt)
            have hcell := hd i _ (nb_at hlt)
            have hxi := HX.out _ (List.getElem_mem hlt)
            have hst := rest_step (l := l0) (b := l1) hlt (show 8 * i + 8 ≤ k by omega)
            obtain ⟨e1, e2⟩ := full_num hxi (restW l0 l1 k (i + 1))
            rw [← hst] at e1 e2
            rw [e2] at hR7
            rw [e1]
            clear hst e1 e2 hd
            generalize l0[i] = y at *
            go_wp2
            go_roundw
            case rel => exact ⟨i + 1, by omega, by omega, by go_num, hR7, hb7⟩
            case measure => simp [intOf]; omega
        · have hil : i = l0.length := by omega
          have hrl := rest_len l0 l1 k i
          have hbL := bytesW_len (b := l1) (by omega)
          have hre : restW l0 l1 k i = (bytesW l1).take (k - 8 * l0.length) := by
            unfold restW
            rw [hil, List.drop_length, numsW_nil, List.nil_append]
          rw [hre] at hR hrl
          have hrL := HLEN.out
          clear hil
          go_wp2_with fail
          refine (RBytes_any wr hR 200 (by omega) (by show ((bytesW l1).take (k - 8 * l0.length)).length ≤ _; omega)).mono ?_
          rintro e w7 ⟨v7, rfl, hv7, hR7, hG7⟩
          have hb7 := hbr.trans (below_rg hG7 hgw hbr.size)
          by_cases hcut : k < all.length
          · obtain ⟨e1, e2⟩ := cut_bytes (b := l1) (by omega) (show k - 8 * l0.length < l1.length + 2 by omega)
            rw [e1] at hv7
            obtain ⟨A7, c7, rfl, _⟩ := hv7
            obtain ⟨AR, cR, hR7⟩ := hR7
            have E2 := hid e2
            rw [show ([] : List UInt8).length = 0 from rfl]
            clear e1 e2 hrL hre hbL
            go_wp2_with fail
            refine (RErr_any w7 hR7).mono ?_
            rintro e w8 ⟨rfl, rfl⟩
            rw [E2.out]
            go_wp2
            go_ret
            exact ⟨rfl, hb7⟩
          · have hfull : (bytesW l1).take (k - 8 * l0.length) = bytesW l1 ++ [] := by rw [List.append_nil, List.take_of_length_le (by omega)]
            obtain ⟨e1, e2⟩ := bytes_back (b := l1) (by omega) [] (show (l1.length : Int) ≤ 200 by omega)
            rw [hfull, e1] at hv7
            rw [hfull, e2] at hR7
            obtain ⟨A7, c7, rfl, _, _, hrd7, _⟩ := hv7
            have hcs1 := conv_str (P := Try.prog) (src := 23) (dst := 9) Try.underlying23 Try.underlying5 Try.underlying9 c7 hrd7
            have hcs2 := conv_str (P := Try.prog) (src := 23) (dst := 9) Try.underlying23 Try.underlying5 Try.underlying9 c1 (HR1.out.below hb7)
            obtain ⟨AR, cR, hR7⟩ := hR7
            clear hfull e1 e2 hrL hre hbL hrd7
            go_wp2_with fail
            refine (REnd_any w7 hR7).mono ?_
            rintro e w8 ⟨rfl, rfl⟩
            rw [show endE ⟨[], 0⟩ = 0 from by decide +kernel]
            go_wp2
            go_ret
            exact ⟨rfl, hb7⟩
end Go.Proofs.Ytnlgogladafcdaa
