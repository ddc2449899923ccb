/- The document's answer for octet: ReadNum, ReadBytes, walked. -/
import Derived.Test.YtnlgogladafcdaaOctP
namespace Go.Proofs.Ytnlgogladafcdaa
open Go.RowKit
set_option linter.unusedVariables false
theorem str_get {s : List UInt8} {i : Nat} {c : UInt8} (h : s[i]? = some c) (w : World) : (Instr.index 9 (.string ⟨s.toArray⟩) (.int .i64 (i : Int))).run Try.prog w = .ok (.int .u8 (c.toNat : Int)) w := by
  have hi : i < s.length := (List.getElem?_eq_some_iff.1 h).1
  have hsz : (⟨s.toArray⟩ : ByteArray).size = s.length := by simp [ByteArray.size]
  rw [run_index_string w 9 _ .i64 (i : Int) Try.underlying9, dif_pos (by rw [hsz]; omega)]
  have he : (⟨s.toArray⟩ : ByteArray)[(i : Int).toNat]'(by rw [Int.toNat_natCast, hsz]; exact hi) = c := by
    have := (List.getElem?_eq_some_iff.1 h).2
    simpa [ByteArray.getElem_eq_getElem_data] using this
  rw [he]
theorem add8 (X c : Nat) (h : X < 72057594037927936) (hc : c < 256) : IntKind.u64.wrap (((X * 256 : Nat) : Int) + (c : Int)) = ((X * 256 + c : Nat) : Int) := by
  simp only [IntKind.wrap, IntKind.bits, IntKind.signed]
  simp
  omega
set_option maxRecDepth 100000 in
set_option maxHeartbeats 1000000 in
theorem refNumR_any (w : World) (b : List UInt8) (e n : Int) (hn : n ≤ 9223372036854775807) (hb : b.length ≤ 1000000) :
    Calls Try.prog 22 #[.agg (rcs b e).toArray, .int .i64 n] w fun x w' => x = .returned (.tuple #[.agg (rcs (numS ⟨b, e⟩ n).b (numS ⟨b, e⟩ n).e).toArray, .int .u64 ((numV ⟨b, e⟩ n : Nat) : Int)]) ∧ Below w.heap.size w w' := by
  have hbx := Blk.new w tR (rcs b e).toArray
  have hb0 : Below w.heap.size w (w.alloc (.cells (rcs b e).toArray tR)) := bx_alloc (Below.refl _ _) _
  have hgs : w.heap.size < (w.alloc (.cells (rcs b e).toArray tR)).heap.size := by simp
  by_cases he : e = 0
  · subst he
    by_cases hm : mayB n = true
    · have hm2 := hm
      simp only [mayB, Bool.and_eq_true, decide_eq_true_eq] at hm2
      obtain ⟨n1, n8⟩ := hm2
      have k1 : ¬ n < 1 := by omega
      have k8 : ¬ 8 < n := by omega
      obtain ⟨e, hE⟩ : ∃ e : Int, e = 0 := ⟨_, rfl⟩
      have hS : rawS ⟨b, 0⟩ n = numS ⟨b, 0⟩ n := by unfold rawS numS; rw [if_neg (by omega), if_pos hm]
      have hV : foldV (rawV ⟨b, 0⟩ n) = numV ⟨b, 0⟩ n := by unfold rawV numV; rw [if_neg (by omega), if_pos hm]
      have HL : Hid ((rawV ⟨b, 0⟩ n).length ≤ 8) := by
        refine hid ?_
        unfold rawV
        rw [if_neg (by omega)]
        have := takeV_len ⟨b, 0⟩ n.toNat
        omega
      clear hm hE
      rw [← hV]
      obtain ⟨v, hv⟩ : ∃ v, v = rawV ⟨b, 0⟩ n := ⟨_, rfl⟩
      obtain ⟨s, hs⟩ : ∃ s, s = numS ⟨b, 0⟩ n := ⟨_, rfl⟩
      have hlen8 := HL.out
      rw [← hv] at hlen8 ⊢
      rw [← hs] at hS ⊢
      rcases s with ⟨rb, re⟩
      have HS := hid hS
      have HV := hid hv
      clear hS hV hs hv HL
      go_enter Try.func22, Try.ntmps22
      go_wp2_with (first
        | (refine wpList_alloc rfl _ rfl zeroR ?_; intro g2 w2 hg2 hg2' hblk2 hb2; have hne2 : g2 ≠ w.heap.size := Nat.ne_of_gt (Nat.lt_of_lt_of_le hgs hg2); have hle2 : w.heap.size ≤ g2 := Nat.le_trans hb0.size hg2; have hbA := bx_trans hb0 hb2; have hblk1 := hbx.below hb2 hgs; have c0 := cellR0 hblk1; have c1 := cellR1 hblk1; have f1 := hblk1.frozen 1; have f0 := hblk1.frozen 0)
        | (refine wpList_load_agg rfl _ _ rfl _ _ rfl (rcs b 0) (aggR _ _) (blk_cells (hblk1)) ?_))
      refine (refRaw_any w2 b 0 n hn hb).mono ?_
      rintro x w3 ⟨rfl, hb3⟩
      rw [HS.out, ← HV.out]
      clear HS HV c0 c1 f0 f1
      skip
      have hsz : (⟨v.toArray⟩ : ByteArray).size = v.length := by simp [ByteArray.size]
      go_wp2_with (refine wpList_store_agg rfl _ _ _ rfl _ _ rfl (rcs rb re).toArray rfl (aggR _ _) (hblk1.below hb3 hblk1.lt) (Nat.le_refl 2) (oneR _ _) ?_; intro w4 hp4)
      have hblk4 := hp4.blk
      rw [splR] at hblk4
      have hblk24 := hp4.other (hblk2.below hb3 hg2') hne2
      have hb04 := bx_put (bx_trans hbA hb3) hp4 (Nat.le_refl _)
      clear hblk1 hblk2 hbA hb3 hp4 hbx hb0 hb2 hg2 hg2'
      go_loopw [7, 8] (fun y j wr => ∃ (i : Nat), i ≤ v.length ∧ y = .int .u64 ((foldV (v.take i) : Nat) : Int) ∧ j = .int .i64 i ∧ Below w4.heap.size w4 wr) (fun _ j _ => v.length - (intOf j).toNat)
      case atStart => exact ⟨0, by omega, rfl, rfl, Below.refl _ _⟩
      case round =>
        obtain ⟨i, hi, rfl, rfl, hbr⟩ := hrel
        by_cases hlt : i < v.length
        · have hfs : foldV (v.take (i + 1)) = foldV (v.take i) * 256 + (v[i]).toNat := by rw [List.take_succ_eq_append_getElem hlt, foldV_snoc]
          have hfl := foldV_lt (v.take i)
          rw [List.length_take, Nat.min_eq_left (by omega)] at hfl
          have hpw := pow8 (k := i) (by omega)
          have hg := str_get (List.getElem?_eq_getElem hlt)
          have hc8 := (v[i]).toNat_lt
          have HFS := hid hfs
          clear hfs
          generalize v[i] = c at *
          generalize foldV (v.take i) = X at *
          have hX : X < 72057594037927936 := by omega
          have h1 := shl8 X hX
          have h2 := add8 X c.toNat hX hc8
          have h3 : IntKind.u64.wrap (c.toNat : Int) = (c.toNat : Int) := by simp only [IntKind.wrap, IntKind.bits, IntKind.signed]; simp; omega
          clear hfl hpw
          generalize hP : X * 256 = P at *
          have HP := hid hP
          clear hP
          go_wp2
          go_roundw
          case rel => exact ⟨i + 1, by omega, by rw [HFS.out, Int.natCast_add], by go_num, hbr⟩
          case measure => simp [intOf]; omega
        · have hil : i = v.length := by omega
          have hfin : foldV (v.take i) = foldV v := by rw [hil, List.take_length]
          rw [hfin]
          clear hfin hil
          have hblk5 := hblk4.below hbr hblk4.lt
          have hblk25 := hblk24.below hbr hblk24.lt
          go_wp2_with (first | (refine wpList_load_agg rfl _ _ rfl _ _ rfl (rcs rb re) (aggR _ _) (blk_cells (hblk5)) ?_) | (refine wpList_store_agg rfl _ _ _ rfl _ _ rfl (rcs rb re).toArray rfl (aggR _ _) (hblk25) (Nat.le_refl 2) (oneR _ _) ?_; intro w6 hp6))
          refine bodyPost_ret (results_agg2 rfl rfl (aggR rb re) (blk_cells hp6.blk)) rfl ?_
          exact ⟨rfl, bx_put (bx_trans hb04 hbr) hp6 hle2⟩
    · have hs : numS ⟨b, 0⟩ n = ⟨b, 1⟩ ∧ numV ⟨b, 0⟩ n = 0 := by unfold numS numV argS; rw [if_neg hm, if_neg hm, if_pos rfl]; exact ⟨rfl, rfl⟩
      rw [hs.1, hs.2]
      have hout : n < 1 ∨ 8 < n := by
        simp only [mayB, Bool.and_eq_true, decide_eq_true_eq] at hm
        omega
      clear hs hm
      go_enter Try.func22, Try.ntmps22
      rcases hout with ho | ho
      · go_wp2_with (first
          | (refine wpList_alloc rfl _ rfl zeroR ?_; intro g2 w2 hg2 hg2' hblk2 hb2; have hne2 : g2 ≠ w.heap.size := Nat.ne_of_gt (Nat.lt_of_lt_of_le hgs hg2); have hle2 : w.heap.size ≤ g2 := Nat.le_trans hb0.size hg2; have hbA := bx_trans hb0 hb2; have hblk1 := hbx.below hb2 hgs; have c0 := cellR0 hblk1; have c1 := cellR1 hblk1; have f1 := hblk1.frozen 1; have f0 := hblk1.frozen 0)
          | (refine wpList_load_agg rfl _ _ rfl _ _ rfl (rcs b 1) (aggR _ _) (blk_cells ((setR1 hblk1 1).blk)) ?_)
          | (refine wpList_store_agg rfl _ _ _ rfl _ _ rfl (rcs b 1).toArray rfl (aggR _ _) ((setR1 hblk1 1).other hblk2 hne2) (Nat.le_refl 2) (oneR _ _) ?_; intro w4 hp4))
        refine bodyPost_ret (results_agg2 rfl rfl (aggR b 1) (blk_cells hp4.blk)) rfl ?_
        exact ⟨rfl, bx_put (bx_put hbA (setR1 hblk1 1) (Nat.le_refl _)) hp4 hle2⟩
      · have ho1 : ¬ n < 1 := by omega
        go_wp2_with (first
          | (refine wpList_alloc rfl _ rfl zeroR ?_; intro g2 w2 hg2 hg2' hblk2 hb2; have hne2 : g2 ≠ w.heap.size := Nat.ne_of_gt (Nat.lt_of_lt_of_le hgs hg2); have hle2 : w.heap.size ≤ g2 := Nat.le_trans hb0.size hg2; have hbA := bx_trans hb0 hb2; have hblk1 := hbx.below hb2 hgs; have c0 := cellR0 hblk1; have c1 := cellR1 hblk1; have f1 := hblk1.frozen 1; have f0 := hblk1.frozen 0)
          | (refine wpList_load_agg rfl _ _ rfl _ _ rfl (rcs b 1) (aggR _ _) (blk_cells ((setR1 hblk1 1).blk)) ?_)
          | (refine wpList_store_agg rfl _ _ _ rfl _ _ rfl (rcs b 1).toArray rfl (aggR _ _) ((setR1 hblk1 1).other hblk2 hne2) (Nat.le_refl 2) (oneR _ _) ?_; intro w4 hp4))
        refine bodyPost_ret (results_agg2 rfl rfl (aggR b 1) (blk_cells hp4.blk)) rfl ?_
        exact ⟨rfl, bx_put (bx_put hbA (setR1 hblk1 1) (Nat.le_refl _)) hp4 hle2⟩
  · have hS : rawS ⟨b, e⟩ n = numS ⟨b, e⟩ n := by rw [(stuck_raw (s := ⟨b, e⟩) he n).2, (stuck_num (s := ⟨b, e⟩) he n).2]
    have hV : foldV (rawV ⟨b, e⟩ n) = numV ⟨b, e⟩ n := by rw [(stuck_raw (s := ⟨b, e⟩) he n).1, (stuck_num (s := ⟨b, e⟩) he n).1]; rfl
    have HL : Hid ((rawV ⟨b, e⟩ n).length ≤ 8) := by rw [(stuck_raw (s := ⟨b, e⟩) he n).1]; exact hid (by decide)
    rw [← hV]
    obtain ⟨v, hv⟩ : ∃ v, v = rawV ⟨b, e⟩ n := ⟨_, rfl⟩
    obtain ⟨s, hs⟩ : ∃ s, s = numS ⟨b, e⟩ n := ⟨_, rfl⟩
    have hlen8 := HL.out
    rw [← hv] at hlen8 ⊢
    rw [← hs] at hS ⊢
    rcases s with ⟨rb, re⟩
    have HS := hid hS
    have HV := hid hv
    clear hS hV hs hv HL
    go_enter Try.func22, Try.ntmps22
    go_wp2_with (first
      | (refine wpList_alloc rfl _ rfl zeroR ?_; intro g2 w2 hg2 hg2' hblk2 hb2; have hne2 : g2 ≠ w.heap.size := Nat.ne_of_gt (Nat.lt_of_lt_of_le hgs hg2); have hle2 : w.heap.size ≤ g2 := Nat.le_trans hb0.size hg2; have hbA := bx_trans hb0 hb2; have hblk1 := hbx.below hb2 hgs; have c0 := cellR0 hblk1; have c1 := cellR1 hblk1; have f1 := hblk1.frozen 1; have f0 := hblk1.frozen 0)
      | (refine wpList_load_agg rfl _ _ rfl _ _ rfl (rcs b e) (aggR _ _) (blk_cells (hblk1)) ?_))
    refine (refRaw_any w2 b e n hn hb).mono ?_
    rintro x w3 ⟨rfl, hb3⟩
    rw [HS.out, ← HV.out]
    clear HS HV c0 c1 f0 f1
    skip
    have hsz : (⟨v.toArray⟩ : ByteArray).size = v.length := by simp [ByteArray.size]
    go_wp2_with (refine wpList_store_agg rfl _ _ _ rfl _ _ rfl (rcs rb re).toArray rfl (aggR _ _) (hblk1.below hb3 hblk1.lt) (Nat.le_refl 2) (oneR _ _) ?_; intro w4 hp4)
    have hblk4 := hp4.blk
    rw [splR] at hblk4
    have hblk24 := hp4.other (hblk2.below hb3 hg2') hne2
    have hb04 := bx_put (bx_trans hbA hb3) hp4 (Nat.le_refl _)
    clear hblk1 hblk2 hbA hb3 hp4 hbx hb0 hb2 hg2 hg2'
    go_loopw [7, 8] (fun y j wr => ∃ (i : Nat), i ≤ v.length ∧ y = .int .u64 ((foldV (v.take i) : Nat) : Int) ∧ j = .int .i64 i ∧ Below w4.heap.size w4 wr) (fun _ j _ => v.length - (intOf j).toNat)
    case atStart => exact ⟨0, by omega, rfl, rfl, Below.refl _ _⟩
    case round =>
      obtain ⟨i, hi, rfl, rfl, hbr⟩ := hrel
      by_cases hlt : i < v.length
      · have hfs : foldV (v.take (i + 1)) = foldV (v.take i) * 256 + (v[i]).toNat := by rw [List.take_succ_eq_append_getElem hlt, foldV_snoc]
        have hfl := foldV_lt (v.take i)
        rw [List.length_take, Nat.min_eq_left (by omega)] at hfl
        have hpw := pow8 (k := i) (by omega)
        have hg := str_get (List.getElem?_eq_getElem hlt)
        have hc8 := (v[i]).toNat_lt
        have HFS := hid hfs
        clear hfs
        generalize v[i] = c at *
        generalize foldV (v.take i) = X at *
        have hX : X < 72057594037927936 := by omega
        have h1 := shl8 X hX
        have h2 := add8 X c.toNat hX hc8
        have h3 : IntKind.u64.wrap (c.toNat : Int) = (c.toNat : Int) := by simp only [IntKind.wrap, IntKind.bits, IntKind.signed]; simp; omega
        clear hfl hpw
        generalize hP : X * 256 = P at *
        have HP := hid hP
        clear hP
        go_wp2
        go_roundw
        case rel => exact ⟨i + 1, by omega, by rw [HFS.out, Int.natCast_add], by go_num, hbr⟩
        case measure => simp [intOf]; omega
      · have hil : i = v.length := by omega
        have hfin : foldV (v.take i) = foldV v := by rw [hil, List.take_length]
        rw [hfin]
        clear hfin hil
        have hblk5 := hblk4.below hbr hblk4.lt
        have hblk25 := hblk24.below hbr hblk24.lt
        go_wp2_with (first | (refine wpList_load_agg rfl _ _ rfl _ _ rfl (rcs rb re) (aggR _ _) (blk_cells (hblk5)) ?_) | (refine wpList_store_agg rfl _ _ _ rfl _ _ rfl (rcs rb re).toArray rfl (aggR _ _) (hblk25) (Nat.le_refl 2) (oneR _ _) ?_; intro w6 hp6))
        refine bodyPost_ret (results_agg2 rfl rfl (aggR rb re) (blk_cells hp6.blk)) rfl ?_
        exact ⟨rfl, bx_put (bx_trans hb04 hbr) hp6 hle2⟩
set_option maxRecDepth 100000 in
set_option maxHeartbeats 1000000 in
theorem refBytesR_any (w : World) (b : List UInt8) (e n : Int) (hn : n ≤ 9223372036854775807) (hb : b.length ≤ 1000000) :
    Calls Try.prog 26 #[.agg (rcs b e).toArray, .int .i64 n] w fun x w' => x = .returned (.tuple #[.agg (rcs (bytesS ⟨b, e⟩ n).b (bytesS ⟨b, e⟩ n).e).toArray, .string ⟨(bytesV ⟨b, e⟩ n).toArray⟩]) ∧ Below w.heap.size w w' := by
  have hbx := Blk.new w tR (rcs b e).toArray
  have hb0 : Below w.heap.size w (w.alloc (.cells (rcs b e).toArray tR)) := bx_alloc (Below.refl _ _) _
  have hgs : w.heap.size < (w.alloc (.cells (rcs b e).toArray tR)).heap.size := by simp
  obtain ⟨s2, hs2⟩ : ∃ s2, s2 = numS ⟨b, e⟩ 2 := ⟨_, rfl⟩
  obtain ⟨x, hx⟩ : ∃ x, x = numV ⟨b, e⟩ 2 := ⟨_, rfl⟩
  have hxl := numV2_lt ⟨b, e⟩
  have hbl := numS_len ⟨b, e⟩ 2
  have E1 := @bytes_err ⟨b, e⟩ n
  have E2 := @bytes_big ⟨b, e⟩ n
  have E3 := @bytes_ok ⟨b, e⟩ n
  rw [← hs2] at E1 E2 E3 hbl
  rw [← hx] at E2 E3 hxl
  rcases s2 with ⟨b2, e2⟩
  have HS := hid hs2
  have HX := hid hx
  clear hs2 hx
  replace hbl : b2.length ≤ 1000000 := Nat.le_trans hbl hb
  by_cases he2 : e2 = 0
  · subst he2
    by_cases hbig : n < 0 ∨ n < (x : Int)
    · obtain ⟨h1, h2⟩ := E2 rfl hbig
      rw [h1, h2]
      clear E1 E2 E3 h1 h2
      by_cases hneg : n < 0
      · clear hbig
        go_enter Try.func26, Try.ntmps26
        go_wp2_with (first
          | (refine wpList_alloc rfl _ rfl zeroR ?_; intro g2 w2 hg2 hg2' hblk2 hb2; have hne2 : g2 ≠ w.heap.size := Nat.ne_of_gt (Nat.lt_of_lt_of_le hgs hg2); have hle2 : w.heap.size ≤ g2 := Nat.le_trans hb0.size hg2; have hbA := bx_trans hb0 hb2; have hblk1 := hbx.below hb2 hgs; have c0 := cellR0 hblk1; have c1 := cellR1 hblk1; have f1 := hblk1.frozen 1; have f0 := hblk1.frozen 0)
          | (refine wpList_load_agg rfl _ _ rfl _ _ rfl (rcs b e) (aggR _ _) (blk_cells (hblk1)) ?_))
        refine (refNumR_any w2 b e 2 (by omega) hb).mono ?_
        rintro y w3 ⟨rfl, hb3⟩
        rw [← HS.out, ← HX.out]
        clear HS HX c0 c1 f0 f1
        go_wp2_with (first
          | (refine wpList_store_agg rfl _ _ _ rfl _ _ rfl (rcs b2 0).toArray rfl (aggR _ _) (hblk1.below hb3 hblk1.lt) (Nat.le_refl 2) (oneR _ _) ?_; intro w4 hp4; have hblk4 := hp4.blk; rw [splR] at hblk4; have hblk24 := hp4.other (hblk2.below hb3 hg2') hne2; have hb04 := bx_put (bx_trans hbA hb3) hp4 (Nat.le_refl _); have c0 := cellR0 hblk4; have c1 := cellR1 hblk4; have f0 := hblk4.frozen 0; have f1 := hblk4.frozen 1)
          | (refine wpList_load_agg rfl _ _ rfl _ _ rfl (rcs b2 13) (aggR _ _) (blk_cells ((setR1 hblk4 13).blk)) ?_)
          | (refine wpList_store_agg rfl _ _ _ rfl _ _ rfl (rcs b2 13).toArray rfl (aggR _ _) ((setR1 hblk4 13).other hblk24 hne2) (Nat.le_refl 2) (oneR _ _) ?_; intro w6 hp6))
        refine bodyPost_ret (results_agg2 rfl rfl (aggR b2 13) (blk_cells hp6.blk)) rfl ?_
        exact ⟨rfl, bx_put (bx_put hb04 (setR1 hblk4 13) (Nat.le_refl _)) hp6 hle2⟩
      · have hlt : n < (x : Int) := by omega
        obtain ⟨k, rfl⟩ := Int.eq_ofNat_of_zero_le (show 0 ≤ n by omega)
        have hw : IntKind.u64.wrap (k : Int) = (k : Int) := by simp only [IntKind.wrap, IntKind.bits, IntKind.signed]; simp; omega
        clear hbig
        go_enter Try.func26, Try.ntmps26
        go_wp2_with (first
          | (refine wpList_alloc rfl _ rfl zeroR ?_; intro g2 w2 hg2 hg2' hblk2 hb2; have hne2 : g2 ≠ w.heap.size := Nat.ne_of_gt (Nat.lt_of_lt_of_le hgs hg2); have hle2 : w.heap.size ≤ g2 := Nat.le_trans hb0.size hg2; have hbA := bx_trans hb0 hb2; have hblk1 := hbx.below hb2 hgs; have c0 := cellR0 hblk1; have c1 := cellR1 hblk1; have f1 := hblk1.frozen 1; have f0 := hblk1.frozen 0)
          | (refine wpList_load_agg rfl _ _ rfl _ _ rfl (rcs b e) (aggR _ _) (blk_cells (hblk1)) ?_))
        refine (refNumR_any w2 b e 2 (by omega) hb).mono ?_
        rintro y w3 ⟨rfl, hb3⟩
        rw [← HS.out, ← HX.out]
        clear HS HX c0 c1 f0 f1
        go_wp2_with (first
          | (refine wpList_store_agg rfl _ _ _ rfl _ _ rfl (rcs b2 0).toArray rfl (aggR _ _) (hblk1.below hb3 hblk1.lt) (Nat.le_refl 2) (oneR _ _) ?_; intro w4 hp4; have hblk4 := hp4.blk; rw [splR] at hblk4; have hblk24 := hp4.other (hblk2.below hb3 hg2') hne2; have hb04 := bx_put (bx_trans hbA hb3) hp4 (Nat.le_refl _); have c0 := cellR0 hblk4; have c1 := cellR1 hblk4; have f0 := hblk4.frozen 0; have f1 := hblk4.frozen 1)
          | (refine wpList_load_agg rfl _ _ rfl _ _ rfl (rcs b2 13) (aggR _ _) (blk_cells ((setR1 hblk4 13).blk)) ?_)
          | (refine wpList_store_agg rfl _ _ _ rfl _ _ rfl (rcs b2 13).toArray rfl (aggR _ _) ((setR1 hblk4 13).other hblk24 hne2) (Nat.le_refl 2) (oneR _ _) ?_; intro w6 hp6))
        refine bodyPost_ret (results_agg2 rfl rfl (aggR b2 13) (blk_cells hp6.blk)) rfl ?_
        exact ⟨rfl, bx_put (bx_put hb04 (setR1 hblk4 13) (Nat.le_refl _)) hp6 hle2⟩
    · obtain ⟨h1, h2⟩ := E3 rfl hbig
      rw [h1, h2]
      clear E1 E2 E3 h1 h2
      have hneg : ¬ n < 0 := by omega
      obtain ⟨k, rfl⟩ := Int.eq_ofNat_of_zero_le (show 0 ≤ n by omega)
      have hlt : ¬ (k : Int) < (x : Int) := by omega
      have hw : IntKind.u64.wrap (k : Int) = (k : Int) := by simp only [IntKind.wrap, IntKind.bits, IntKind.signed]; simp; omega
      have hw2 : IntKind.i64.wrap (x : Int) = (x : Int) := wr_i64 _ (by omega) (by omega)
      clear hbig
      go_enter Try.func26, Try.ntmps26
      go_wp2_with (first
        | (refine wpList_alloc rfl _ rfl zeroR ?_; intro g2 w2 hg2 hg2' hblk2 hb2; have hne2 : g2 ≠ w.heap.size := Nat.ne_of_gt (Nat.lt_of_lt_of_le hgs hg2); have hle2 : w.heap.size ≤ g2 := Nat.le_trans hb0.size hg2; have hbA := bx_trans hb0 hb2; have hblk1 := hbx.below hb2 hgs; have c0 := cellR0 hblk1; have c1 := cellR1 hblk1; have f1 := hblk1.frozen 1; have f0 := hblk1.frozen 0)
        | (refine wpList_load_agg rfl _ _ rfl _ _ rfl (rcs b e) (aggR _ _) (blk_cells (hblk1)) ?_))
      refine (refNumR_any w2 b e 2 (by omega) hb).mono ?_
      rintro y w3 ⟨rfl, hb3⟩
      rw [← HS.out, ← HX.out]
      clear HS HX c0 c1 f0 f1
      go_wp2_with (first
        | (refine wpList_store_agg rfl _ _ _ rfl _ _ rfl (rcs b2 0).toArray rfl (aggR _ _) (hblk1.below hb3 hblk1.lt) (Nat.le_refl 2) (oneR _ _) ?_; intro w4 hp4; have hblk4 := hp4.blk; rw [splR] at hblk4; have hblk24 := hp4.other (hblk2.below hb3 hg2') hne2; have hb04 := bx_put (bx_trans hbA hb3) hp4 (Nat.le_refl _); have c0 := cellR0 hblk4; have c1 := cellR1 hblk4; have f0 := hblk4.frozen 0; have f1 := hblk4.frozen 1)
        | (refine wpList_load_agg rfl _ _ rfl _ _ rfl (rcs b2 0) (aggR _ _) (blk_cells (hblk4)) ?_))
      refine (refRaw_any w4 b2 0 (x : Int) (by omega) hbl).mono ?_
      rintro y w5 ⟨rfl, hb5⟩
      have hblk25 := hblk24.below hb5 hblk24.lt
      go_wp2_with (refine wpList_store_agg rfl _ _ _ rfl _ _ rfl (rcs (rawS ⟨b2, 0⟩ (x : Int)).b (rawS ⟨b2, 0⟩ (x : Int)).e).toArray rfl (aggR _ _) (hblk25) (Nat.le_refl 2) (oneR _ _) ?_; intro w6 hp6)
      refine bodyPost_ret (results_agg2 rfl rfl (aggR _ _) (blk_cells hp6.blk)) rfl ?_
      exact ⟨rfl, bx_put (bx_trans hb04 hb5) hp6 hle2⟩
  · obtain ⟨h1, h2⟩ := E1 he2
    rw [h1, h2]
    clear E1 E2 E3 h1 h2
    go_enter Try.func26, Try.ntmps26
    go_wp2_with (first
      | (refine wpList_alloc rfl _ rfl zeroR ?_; intro g2 w2 hg2 hg2' hblk2 hb2; have hne2 : g2 ≠ w.heap.size := Nat.ne_of_gt (Nat.lt_of_lt_of_le hgs hg2); have hle2 : w.heap.size ≤ g2 := Nat.le_trans hb0.size hg2; have hbA := bx_trans hb0 hb2; have hblk1 := hbx.below hb2 hgs; have c0 := cellR0 hblk1; have c1 := cellR1 hblk1; have f1 := hblk1.frozen 1; have f0 := hblk1.frozen 0)
      | (refine wpList_load_agg rfl _ _ rfl _ _ rfl (rcs b e) (aggR _ _) (blk_cells (hblk1)) ?_))
    refine (refNumR_any w2 b e 2 (by omega) hb).mono ?_
    rintro y w3 ⟨rfl, hb3⟩
    rw [← HS.out, ← HX.out]
    clear HS HX c0 c1 f0 f1
    go_wp2_with (first
      | (refine wpList_store_agg rfl _ _ _ rfl _ _ rfl (rcs b2 e2).toArray rfl (aggR _ _) (hblk1.below hb3 hblk1.lt) (Nat.le_refl 2) (oneR _ _) ?_; intro w4 hp4; have hblk4 := hp4.blk; rw [splR] at hblk4; have hblk24 := hp4.other (hblk2.below hb3 hg2') hne2; have hb04 := bx_put (bx_trans hbA hb3) hp4 (Nat.le_refl _); have c0 := cellR0 hblk4; have c1 := cellR1 hblk4; have f0 := hblk4.frozen 0; have f1 := hblk4.frozen 1)
      | (refine wpList_load_agg rfl _ _ rfl _ _ rfl (rcs b2 e2) (aggR _ _) (blk_cells (hblk4)) ?_)
      | (refine wpList_store_agg rfl _ _ _ rfl _ _ rfl (rcs b2 e2).toArray rfl (aggR _ _) (hblk24) (Nat.le_refl 2) (oneR _ _) ?_; intro w6 hp6))
    refine bodyPost_ret (results_agg2 rfl rfl (aggR b2 e2) (blk_cells hp6.blk)) rfl ?_
    exact ⟨rfl, bx_put (hb04) hp6 hle2⟩
end Go.Proofs.Ytnlgogladafcdaa
