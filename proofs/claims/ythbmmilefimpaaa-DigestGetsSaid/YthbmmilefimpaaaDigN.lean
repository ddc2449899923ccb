
/- What is put is got; the document's answers for numbers and hashes, walked. -/
import Derived.Test.YthbmmilefimpaaaDigL
namespace Go.Proofs.Ythbmmilefimpaaa
open Go.RowKit Go.Maps
set_option linter.unusedVariables false
/-- A string of bytes. -/
def sv (l : List UInt8) : Value := .string ⟨l.toArray⟩
theorem str_app (a b : List UInt8) : (⟨a.toArray⟩ : ByteArray) ++ (⟨b.toArray⟩ : ByteArray) = ⟨(a ++ b).toArray⟩ := by
  apply ByteArray.ext
  rw [ByteArray.data_append]
  simp
theorem numL_cons (x k : Nat) : numL x (k + 1) = byN (x / 2 ^ (8 * k)) :: numL x k := by
  unfold numL
  rw [List.range_succ_eq_map, List.map_cons, List.map_map]
  congr 1
  apply List.map_congr_left
  intro i hi
  have hik : i < k := List.mem_range.1 hi
  show byN (x / 2 ^ (8 * (k + 1 - 1 - (i + 1)))) = _
  congr 4
  omega
theorem lit1 (w : World) (c : UInt8) : Rd (w.alloc (.cells #[.int .u8 (c.toNat : Int)] 5)) (w.heap.size + 1) (some ⟨w.heap.size, 0, none⟩) ([c].map cb) := by
  have := rd_of_row (w := w.alloc (.cells #[.int .u8 (c.toNat : Int)] 5)) (heap_new rfl) (xs := [c].map cb) rfl
  simpa using this
theorem lit1_str (w : World) (c : UInt8) : (convert 37 9 (.slice (some ⟨w.heap.size, 0, none⟩) 1 1)).run Try.prog (w.alloc (.cells #[.int .u8 (c.toNat : Int)] 5)) = .ok (.string ⟨#[c]⟩) (w.alloc (.cells #[.int .u8 (c.toNat : Int)] 5)) :=
  conv_str (P := Try.prog) (src := 37) (dst := 9) (l := [c]) Try.underlying37 Try.underlying5 Try.underlying9 1 (lit1 w c)
set_option maxRecDepth 100000 in
set_option maxHeartbeats 1000000 in
theorem refNum_any (w : World) (x : Nat) (hx : x < 18446744073709551616) (n : Int) :
    Calls Try.prog 32 #[.int .u64 (x : Int), .int .i64 n] w fun e w' => e = .returned (.string ⟨(numW x n).toArray⟩) ∧ Below w.heap.size w w' := by
  unfold numW
  by_cases hm : mayB n = true
  · have hm2 := hm
    simp only [mayB, Bool.and_eq_true, decide_eq_true_eq] at hm2
    obtain ⟨n1, n8⟩ := hm2
    obtain ⟨s, rfl⟩ := Int.eq_ofNat_of_zero_le (show 0 ≤ n by omega)
    have k1 : ¬ (s : Int) < 1 := by omega
    have k8 : ¬ (8 : Int) < (s : Int) := by omega
    rw [if_pos hm, Int.toNat_natCast]
    clear hm
    go_enter Try.func32, Try.ntmps32
    go_wp2
    go_loopw [0, 5, 6] (fun y v j wr => ∃ (i : Nat), i ≤ s ∧ y = .int .u64 ((x / 2 ^ (8 * i) : Nat) : Int) ∧ v = .string ⟨(numL x i).toArray⟩ ∧ j = .int .i64 i ∧ Below w.heap.size w wr) (fun _ _ j _ => s - (intOf j).toNat)
    case atStart => exact ⟨0, by omega, by simp, rfl, rfl, Below.refl _ _⟩
    case round =>
      obtain ⟨i, hi, rfl, rfl, rfl, hbr⟩ := hrel
      by_cases hlt : i < s
      · have hyb : x / 2 ^ (8 * i) < 18446744073709551616 := Nat.lt_of_le_of_lt (Nat.div_le_self _ _) hx
        have hnc := numL_cons x i
        have hdd : x / 2 ^ (8 * (i + 1)) = x / 2 ^ (8 * i) / 256 := by
          rw [Nat.div_div_eq_div_mul]
          congr 1
          rw [show 8 * (i + 1) = 8 * i + 8 by omega, Nat.pow_add]
        have hc8 : IntKind.u8.wrap ((x / 2 ^ (8 * i) : Nat) : Int) = ((byN (x / 2 ^ (8 * i))).toNat : Int) := by
          rw [byN_toNat]
          simp only [IntKind.wrap, IntKind.bits, IntKind.signed]
          simp
        generalize x / 2 ^ (8 * i) = y at *
        generalize byN y = c at *
        have hls := lit1_str wr c
        have hsa := str_app [c] (numL x i)
        have hq : ((y : Int) / 256) = ((y / 256 : Nat) : Int) := by simp
        have HQ := hid hq
        have HNC := hid hnc
        have HDD := hid hdd
        have hno : ¬ 9223372036854775807 < 1 + (numL x i).length := by rw [numL_length]; omega
        clear hq hnc hdd
        go_wp2
        go_roundw
        case rel => exact ⟨i + 1, by omega, by rw [HQ.out, HDD.out], by rw [HNC.out], by go_num, bx_alloc hbr _⟩
        case measure => simp [intOf]; omega
      · have hil : i = s := by omega
        subst hil
        clear hlt
        go_wp2
        go_ret
        exact ⟨rfl, hbr⟩
  · rw [if_neg hm]
    have hout : n < 1 ∨ 8 < n := by
      simp only [mayB, Bool.and_eq_true, decide_eq_true_eq] at hm
      omega
    go_enter Try.func32, Try.ntmps32
    rcases hout with ho | ho
    · go_wp2
      go_ret
      exact ⟨rfl, Below.refl _ _⟩
    · have ho1 : ¬ n < 1 := by omega
      go_wp2
      go_ret
      exact ⟨rfl, Below.refl _ _⟩
theorem numL_succ (x k : Nat) : numL x (k + 1) = numL (x / 256) k ++ [byN x] := by
  unfold numL
  rw [List.range_succ, List.map_append]
  congr 1
  · apply List.map_congr_left
    intro i hi
    have hik : i < k := List.mem_range.1 hi
    congr 1
    rw [Nat.div_div_eq_div_mul]
    congr 1
    rw [show 8 * (k + 1 - 1 - i) = 8 + 8 * (k - 1 - i) from by omega, Nat.pow_add]
  · simp
theorem foldV_num : ∀ (k x : Nat), foldV (numL x k) = x % 256 ^ k
  | 0, x => by simp [numL, foldV, Nat.mod_one]
  | k + 1, x => by
    rw [numL_succ, foldV_snoc, foldV_num k (x / 256), byN_toNat, Nat.pow_succ, Nat.mul_comm (256 ^ k) 256, Nat.mod_mul]
    omega
theorem takeV_pre {l m : List UInt8} {n : Nat} (h : l.length = n) : takeV ⟨l ++ m, 0⟩ n = l ∧ takeS ⟨l ++ m, 0⟩ n = ⟨m, 0⟩ := by
  subst h
  unfold takeV takeS
  rw [if_pos rfl, if_pos rfl, if_neg (by simp), if_neg (by simp)]
  exact ⟨List.take_left, by rw [List.drop_left]⟩
/-- What is put is read. -/
theorem num_back {x size : Nat} (h1 : 1 ≤ size) (h8 : size ≤ 8) (m : List UInt8) : numV ⟨numL x size ++ m, 0⟩ size = x % 256 ^ size ∧ numS ⟨numL x size ++ m, 0⟩ size = ⟨m, 0⟩ := by
  have hm : mayB (size : Int) = true := by
    unfold mayB
    rw [Bool.and_eq_true, decide_eq_true_eq, decide_eq_true_eq]
    omega
  obtain ⟨e1, e2⟩ := takeV_pre (m := m) (numL_length x size)
  unfold numV numS
  rw [if_pos hm, if_pos hm, Int.toNat_natCast, e1, e2, foldV_num]
  exact ⟨rfl, rfl⟩
theorem numV1_back {n : Nat} (h : n < 256) (m : List UInt8) : numV ⟨numL n 1 ++ m, 0⟩ 1 = n ∧ numS ⟨numL n 1 ++ m, 0⟩ 1 = ⟨m, 0⟩ := by
  have := num_back (x := n) (size := 1) (by omega) (by omega) m
  rw [Nat.pow_one, Nat.mod_eq_of_lt h] at this
  exact this
theorem numV8_back {n : Nat} (h : n < 18446744073709551616) (m : List UInt8) : numV ⟨numL n 8 ++ m, 0⟩ 8 = n ∧ numS ⟨numL n 8 ++ m, 0⟩ 8 = ⟨m, 0⟩ := by
  have := num_back (x := n) (size := 8) (by omega) (by omega) m
  rw [show (256 : Nat) ^ 8 = 18446744073709551616 from by decide, Nat.mod_eq_of_lt h] at this
  exact this
theorem count_back {n : Nat} (h : n ≤ 32) (m : List UInt8) : countV ⟨numL n 1 ++ m, 0⟩ = n ∧ countE ⟨numL n 1 ++ m, 0⟩ = 0 ∧ numS ⟨numL n 1 ++ m, 0⟩ 1 = ⟨m, 0⟩ := by
  obtain ⟨h1, h2⟩ := numV1_back (n := n) (by omega) m
  unfold countV countE
  rw [h2, h1]
  refine ⟨?_, ?_, rfl⟩
  · rw [if_neg (by simp), if_neg (by omega)]
  · rw [if_neg (by simp), if_neg (by omega)]
theorem hashV_pre {h m : List UInt8} (hl : hOk h) : hashV ⟨h ++ m, 0⟩ = h ∧ takeS ⟨h ++ m, 0⟩ 32 = ⟨m, 0⟩ := by
  obtain ⟨h1, h2⟩ := takeV_pre (m := m) (show h.length = 32 from hl)
  unfold hashV
  rw [h1]
  exact ⟨if_pos hl, h2⟩
theorem kStep_back {k : Key} (hk : kOk k) (m : List UInt8) : kOne ⟨keyB k ++ m, 0⟩ = k ∧ kStep ⟨keyB k ++ m, 0⟩ = ⟨m, 0⟩ := by
  obtain ⟨h1, h2⟩ := numV8_back hk.1 (k.2 ++ m)
  obtain ⟨h3, h4⟩ := hashV_pre (m := m) (show hOk k.2 from hk.2)
  unfold kOne kStep keyB
  rw [List.append_assoc, h1, h2, h3, h4]
  exact ⟨rfl, rfl⟩
theorem kRun_back {ks : List Key} (hok : ∀ k ∈ ks, kOk k) (m : List UInt8) : ∀ i, i ≤ ks.length → kRun i ⟨keysB ks ++ m, 0⟩ = ⟨keysB (ks.drop i) ++ m, 0⟩ ∧ kList i ⟨keysB ks ++ m, 0⟩ = ks.take i
  | 0, _ => ⟨rfl, rfl⟩
  | i + 1, hi => by
    obtain ⟨h1, h2⟩ := kRun_back hok m i (by omega)
    have hlt : i < ks.length := by omega
    have hd : keysB (ks.drop i) = keyB ks[i] ++ keysB (ks.drop (i + 1)) := by
      rw [List.drop_eq_getElem_cons hlt]
      rfl
    obtain ⟨h3, h4⟩ := kStep_back (hok _ (List.getElem_mem hlt)) (keysB (ks.drop (i + 1)) ++ m)
    rw [← List.append_assoc, ← hd] at h3 h4
    unfold kRun kList
    rw [h1, h2, h3, h4]
    exact ⟨rfl, (List.take_succ_eq_append_getElem hlt).symm⟩
theorem hRun_back {ks : List (List UInt8)} (hok : ∀ k ∈ ks, hOk k) (m : List UInt8) : ∀ i, i ≤ ks.length → hRun i ⟨ks.flatten ++ m, 0⟩ = ⟨(ks.drop i).flatten ++ m, 0⟩ ∧ hList i ⟨ks.flatten ++ m, 0⟩ = ks.take i
  | 0, _ => ⟨rfl, rfl⟩
  | i + 1, hi => by
    obtain ⟨h1, h2⟩ := hRun_back hok m i (by omega)
    have hlt : i < ks.length := by omega
    have hd : (ks.drop i).flatten = ks[i] ++ (ks.drop (i + 1)).flatten := by
      rw [List.drop_eq_getElem_cons hlt]
      rfl
    obtain ⟨h3, h4⟩ := hashV_pre (m := (ks.drop (i + 1)).flatten ++ m) (hok _ (List.getElem_mem hlt))
    rw [← List.append_assoc, ← hd] at h3 h4
    unfold hRun hList
    rw [h1, h2, h3, h4]
    exact ⟨rfl, (List.take_succ_eq_append_getElem hlt).symm⟩
/-- What is put is got. -/
theorem get_put {ks : List Key} {fr : List (List UInt8)} (hok1 : ∀ k ∈ ks, kOk k) (hok2 : ∀ k ∈ fr, hOk k) (h1 : ks.length ≤ 32) (h2 : fr.length ≤ 32) : getOut (putB ks fr) = (0, ks, fr) := by
  have e0 : putB ks fr = numL ks.length 1 ++ (keysB ks ++ (numL fr.length 1 ++ (fr.flatten ++ []))) := by
    unfold putB
    simp only [List.append_assoc, List.append_nil]
  obtain ⟨a1, a2, a3⟩ := count_back h1 (keysB ks ++ (numL fr.length 1 ++ (fr.flatten ++ [])))
  obtain ⟨b1, b2⟩ := kRun_back hok1 (numL fr.length 1 ++ (fr.flatten ++ [])) ks.length (Nat.le_refl _)
  obtain ⟨c1, c2, c3⟩ := count_back h2 (fr.flatten ++ [])
  obtain ⟨d1, d2⟩ := hRun_back hok2 [] fr.length (Nat.le_refl _)
  rw [List.drop_length] at b1 d1
  rw [List.take_length] at b2 d2
  have e1 : keysB ([] : List Key) = [] := rfl
  rw [e1, List.nil_append] at b1
  rw [List.flatten_nil, List.nil_append] at d1
  rw [e0]
  unfold getOut
  rw [a1, a2, a3, b1, b2, c1, c2, c3, d1, d2]
  rfl
set_option maxHeartbeats 400000 in
theorem digestOf_any (w : World) {A B : Option Addr} {n m c d : Nat} : Calls Try.prog 21 #[.agg #[.slice A n c, .slice B m d]] w fun e w' => e = .returned (.agg #[.slice A n c, .slice B m d]) ∧ Below w.heap.size w w' := by
  go_enter Try.func21, Try.ntmps21
  go_wp2_with (first
    | (with_reducible refine wpAt ?_; refine wpList_alloc rfl _ rfl zDr ?_; intro g7 w7 hg7 hg7' hz7 hb7; have hc0 := hb7.cell (p := ⟨w.heap.size, 0, none⟩) (by simp); have hc1 := hb7.cell (p := ⟨w.heap.size, 1, none⟩) (by simp); rw [(Blk.new w tDg #[.slice A n c, .slice B m d]).cell 0] at hc0; rw [(Blk.new w tDg #[.slice A n c, .slice B m d]).cell 1] at hc1; simp only [Act.put, List.setIfInBounds_toArray, List.set_cons_succ, List.set_cons_zero])
    | (with_reducible refine wpAt ?_; refine storeR rfl rfl rfl rfl hz7 ?_; intro w8 hp8; simp only [Act.put]))
  refine bodyPost_ret (results_agg (cs := [.slice A n c, .slice B m d]) rfl rfl aggDr (blk_cells hp8.blk)) rfl ?_
  have hs : w.heap.size ≤ (w.alloc (.cells #[.slice A n c, .slice B m d] tDg)).heap.size := by simp
  exact ⟨rfl, bx_put (bx_trans (bx_alloc (Below.refl _ _) _) hb7) hp8 (Nat.le_trans hs hg7)⟩
set_option maxRecDepth 100000 in
set_option maxHeartbeats 400000 in
theorem refRaw2_any (w : World) {h : List UInt8} (hl : hOk h) : Calls Try.prog 33 #[.agg (hc h).toArray] w fun e w' => e = .returned (.string ⟨h.toArray⟩) ∧ Below w.heap.size w w' := by
  have HL := hid (show h.length = 32 from hl)
  go_enter Try.func33, Try.ntmps33
  go_wp2
  have hg := Blk.new w 52 (hc h).toArray
  have hb1 : Below w.heap.size w (w.alloc (.cells (hc h).toArray 52)) := bx_alloc (Below.refl _ _) _
  obtain ⟨g, hgd⟩ : ∃ g, g = w.heap.size := ⟨_, rfl⟩
  rw [← hgd] at hg
  rw [← hgd]
  clear hgd
  go_loopw [3, 4] (fun v j wr => ∃ (i : Nat), i ≤ 32 ∧ v = .string ⟨(h.take i).toArray⟩ ∧ j = .int .i64 i ∧ Blk wr g 52 (hc h).toArray ∧ Below w.heap.size w wr) (fun _ j _ => 32 - (intOf j).toNat)
  case atStart => exact ⟨0, by omega, rfl, rfl, hg, hb1⟩
  case round =>
    obtain ⟨i, hi, rfl, rfl, hblk, hbr⟩ := hrel
    clear hg hb1
    by_cases hlt : i < 32
    · have hlt' : i < h.length := by rw [HL.out]; exact hlt
      obtain ⟨c, hc1⟩ : ∃ c, c = h[i] := ⟨_, rfl⟩
      have hcell : wr.cell? ⟨g, i, none⟩ = some (.int .u8 (c.toNat : Int)) := by
        rw [hblk.cell]
        simp [hc, hlt', hc1, cb]
      have htk : h.take (i + 1) = h.take i ++ [c] := by rw [hc1]; exact List.take_succ_eq_append_getElem hlt'
      have HTK := hid htk
      have hls := lit1_str wr c
      have hsa := str_app (h.take i) [c]
      have hno : ¬ 9223372036854775807 < (h.take i).length + 1 := by rw [List.length_take]; omega
      clear htk hc1
      generalize h.take i = p at *
      go_wp2
      go_roundw
      case rel => exact ⟨i + 1, by omega, by rw [HTK.out], by go_num, hblk.alloc _, bx_alloc hbr _⟩
      case measure => simp [intOf]; omega
    · obtain rfl : i = 32 := by omega
      rw [List.take_of_length_le (by rw [HL.out]; exact Nat.le_refl _)] at *
      go_wp2
      go_ret
      exact ⟨rfl, hbr⟩
end Go.Proofs.Ythbmmilefimpaaa
