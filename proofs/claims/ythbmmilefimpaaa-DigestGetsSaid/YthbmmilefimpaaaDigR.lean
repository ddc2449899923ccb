
/- The document's reader, walked (for the digest). -/
import Derived.Test.YthbmmilefimpaaaDigO
namespace Go.Proofs.Ythbmmilefimpaaa
open Go.RowKit Go.Maps
set_option linter.unusedVariables false
theorem stuck_take {s : RS} (h : s.e ≠ 0) (n : Nat) : takeV s n = [] ∧ takeS s n = s := by
  unfold takeV takeS
  rw [if_neg h, if_neg h]
  exact ⟨rfl, rfl⟩
theorem stuck_arg {s : RS} (h : s.e ≠ 0) : argS s = s := by unfold argS; rw [if_neg h]
theorem stuck_num {s : RS} (h : s.e ≠ 0) (n : Int) : numV s n = 0 ∧ numS s n = s := by
  unfold numV numS
  split
  · rw [(stuck_take h _).1, (stuck_take h _).2]; exact ⟨rfl, rfl⟩
  · exact ⟨rfl, stuck_arg h⟩
theorem stuck_raw {s : RS} (h : s.e ≠ 0) (n : Int) : rawV s n = [] ∧ rawS s n = s := by
  unfold rawV rawS
  split
  · exact ⟨rfl, stuck_arg h⟩
  · exact stuck_take h _
theorem stuck_end {s : RS} (h : s.e ≠ 0) : endE s = s.e := by unfold endE; rw [if_pos h]
/-- Two results, the first of which lies in memory. -/
theorem results_agg2 {P : Program} {fn : Func} {p q : Tmp} {ty : TypeId} (h : fn.results = #[.cell p ty, .tmp q]) {tmps : Array Value} {w : World} {g off : Nat} {cs : List Value}
    (hp : tmps.getD p undef = .pointer (some ⟨g, off, none⟩)) (hT : AggT P ty cs.length) (hc : ∀ j v, cs[j]? = some v → w.cell? ⟨g, off + j, none⟩ = some v) :
    (results fn tmps).run P w = .ok (.tuple #[.agg cs.toArray, tmps.getD q undef]) w := by
  have hp' : tmps[p]?.getD undef = .pointer (some ⟨g, off, none⟩) := by simpa using hp
  simp [results, h, hp', asAddr, run_load_agg hT hc]
abbrev tR : Nat := 74
def rcs (b : List UInt8) (e : Int) : List Value := [.string ⟨b.toArray⟩, .int .i64 e]
theorem zeroR : ZeroT Try.prog tR (.agg (rcs [] 0).toArray) := zeroT_of (by kernel_rfl)
theorem aggR (b : List UInt8) (e : Int) : AggT Try.prog tR (rcs b e).length := aggT_of Try.underlying74 rfl (by kernel_rfl)
theorem str_take (b : List UInt8) (k : Nat) : (⟨b.toArray⟩ : ByteArray).extract 0 k = ⟨(b.take k).toArray⟩ := by
  apply ByteArray.ext
  rw [ByteArray.data_extract]
  simp
theorem str_drop (b : List UInt8) (k n : Nat) (h : b.length ≤ n) : (⟨b.toArray⟩ : ByteArray).extract k n = ⟨(b.drop k).toArray⟩ := by
  apply ByteArray.ext
  rw [ByteArray.data_extract]
  simp
  exact List.take_of_length_le (by rw [List.length_drop]; omega)
theorem oneR (b : List UInt8) (e : Int) : ∀ v ∈ (rcs b e).toArray.toList, v.oneCell' = true := by
  intro v hv
  simp only [rcs, List.mem_cons, List.not_mem_nil, or_false] at hv
  rcases hv with rfl | rfl <;> rfl
theorem splR (b b' : List UInt8) (e e' : Int) : spl (rcs b' e').toArray 0 (rcs b e).toArray.toList = (rcs b e).toArray := rfl
/-- What a block that holds a reader reads. -/
theorem cellR0 {w : World} {g : Nat} {b : List UInt8} {e : Int} (h : Blk w g tR (rcs b e).toArray) : w.cell? ⟨g, 0, none⟩ = some (.string ⟨b.toArray⟩) := by rw [h.cell]; rfl
theorem cellR1 {w : World} {g : Nat} {b : List UInt8} {e : Int} (h : Blk w g tR (rcs b e).toArray) : w.cell? ⟨g, 1, none⟩ = some (.int .i64 e) := by rw [h.cell]; rfl
theorem setR0 {w : World} {g : Nat} {b : List UInt8} {e : Int} (h : Blk w g tR (rcs b e).toArray) (b' : List UInt8) : Put w (w.setCell ⟨g, 0, none⟩ (.string ⟨b'.toArray⟩)) g tR (rcs b' e).toArray := setCell_put h (i := 0) _
theorem setR1 {w : World} {g : Nat} {b : List UInt8} {e : Int} (h : Blk w g tR (rcs b e).toArray) (e' : Int) : Put w (w.setCell ⟨g, 1, none⟩ (.int .i64 e')) g tR (rcs b e').toArray := setCell_put h (i := 1) _
set_option maxRecDepth 100000 in
set_option maxHeartbeats 1000000 in
theorem refRaw_any (w : World) (b : List UInt8) (e n : Int) (hn : n ≤ 9223372036854775807) (hb : b.length ≤ 1000000) :
    Calls Try.prog 40 #[.agg (rcs b e).toArray, .int .i64 n] w fun x w' => x = .returned (.tuple #[.agg (rcs (rawS ⟨b, e⟩ n).b (rawS ⟨b, e⟩ n).e).toArray, .string ⟨(rawV ⟨b, e⟩ n).toArray⟩]) ∧ Below w.heap.size w w' := by
  have hbx := Blk.new w tR (rcs b e).toArray
  have hb0 : Below w.heap.size w (w.alloc (.cells (rcs b e).toArray tR)) := bx_alloc (Below.refl _ _) _
  have hgs : w.heap.size < (w.alloc (.cells (rcs b e).toArray tR)).heap.size := by simp
  have hsz : (⟨b.toArray⟩ : ByteArray).size = b.length := by simp [ByteArray.size]
  go_enter Try.func40, Try.ntmps40
  by_cases he : e = 0
  · subst he
    by_cases hn0 : n < 0
    · have hs : rawS ⟨b, 0⟩ n = ⟨b, 1⟩ ∧ rawV ⟨b, 0⟩ n = [] := by unfold rawS rawV argS; rw [if_pos hn0, if_pos hn0, if_pos rfl]; exact ⟨rfl, rfl⟩
      rw [hs.1, hs.2]
      clear hs
      go_wp2_with (first
        | (refine wpList_alloc rfl _ rfl zeroR ?_; intro g2 w2 hg2 hg2' hblk2 hb2; have hne2 : g2 ≠ w.heap.size := Nat.ne_of_gt (Nat.lt_of_lt_of_le hgs hg2); have hle2 : w.heap.size ≤ g2 := Nat.le_trans hb0.size hg2; have hbA := bx_trans hb0 hb2; have hblk1 := hbx.below hb2 hgs; have c0 := cellR0 hblk1; have c1 := cellR1 hblk1; have f1 := hblk1.frozen 1; have f0 := hblk1.frozen 0)
        | (refine wpList_load_agg rfl _ _ rfl _ _ rfl (rcs b 1) (aggR _ _) (blk_cells ((setR1 hblk1 1).blk)) ?_)
        | (refine wpList_store_agg rfl _ _ _ rfl _ _ rfl (rcs b 1).toArray rfl (aggR _ _) ((setR1 hblk1 1).other hblk2 hne2) (Nat.le_refl 2) (oneR _ _) ?_; intro w4 hp4))
      refine bodyPost_ret (results_agg2 rfl rfl (aggR b 1) (blk_cells hp4.blk)) rfl ?_
      exact ⟨rfl, bx_put (bx_put hbA (setR1 hblk1 1) (Nat.le_refl _)) hp4 hle2⟩
    · obtain ⟨k, rfl⟩ := Int.eq_ofNat_of_zero_le (show 0 ≤ n by omega)
      by_cases hlt : b.length < k
      · have hs : rawS ⟨b, 0⟩ (k : Int) = ⟨b, 10⟩ ∧ rawV ⟨b, 0⟩ (k : Int) = [] := by unfold rawS rawV takeS takeV; rw [if_neg hn0, if_neg hn0, Int.toNat_natCast, if_pos rfl, if_pos rfl, if_pos hlt, if_pos hlt]; exact ⟨rfl, rfl⟩
        rw [hs.1, hs.2]
        clear hs
        go_wp2_with (first
          | (refine wpList_alloc rfl _ rfl zeroR ?_; intro g2 w2 hg2 hg2' hblk2 hb2; have hne2 : g2 ≠ w.heap.size := Nat.ne_of_gt (Nat.lt_of_lt_of_le hgs hg2); have hle2 : w.heap.size ≤ g2 := Nat.le_trans hb0.size hg2; have hbA := bx_trans hb0 hb2; have hblk1 := hbx.below hb2 hgs; have c0 := cellR0 hblk1; have c1 := cellR1 hblk1; have f1 := hblk1.frozen 1; have f0 := hblk1.frozen 0)
          | (refine wpList_load_agg rfl _ _ rfl _ _ rfl (rcs b 10) (aggR _ _) (blk_cells ((setR1 hblk1 10).blk)) ?_)
          | (refine wpList_store_agg rfl _ _ _ rfl _ _ rfl (rcs b 10).toArray rfl (aggR _ _) ((setR1 hblk1 10).other hblk2 hne2) (Nat.le_refl 2) (oneR _ _) ?_; intro w4 hp4))
        refine bodyPost_ret (results_agg2 rfl rfl (aggR b 10) (blk_cells hp4.blk)) rfl ?_
        exact ⟨rfl, bx_put (bx_put hbA (setR1 hblk1 10) (Nat.le_refl _)) hp4 hle2⟩
      · have hs : rawS ⟨b, 0⟩ (k : Int) = ⟨b.drop k, 0⟩ ∧ rawV ⟨b, 0⟩ (k : Int) = b.take k := by unfold rawS rawV takeS takeV; rw [if_neg hn0, if_neg hn0, Int.toNat_natCast, if_pos rfl, if_pos rfl, if_neg hlt, if_neg hlt]; exact ⟨rfl, rfl⟩
        rw [hs.1, hs.2]
        clear hs
        have hst := str_take b k
        have hsd := str_drop b k b.length (Nat.le_refl _)
        have hkb : k ≤ b.length := by omega
        go_wp2_with (first
          | (refine wpList_alloc rfl _ rfl zeroR ?_; intro g2 w2 hg2 hg2' hblk2 hb2; have hne2 : g2 ≠ w.heap.size := Nat.ne_of_gt (Nat.lt_of_lt_of_le hgs hg2); have hle2 : w.heap.size ≤ g2 := Nat.le_trans hb0.size hg2; have hbA := bx_trans hb0 hb2; have hblk1 := hbx.below hb2 hgs; have c0 := cellR0 hblk1; have c1 := cellR1 hblk1; have f1 := hblk1.frozen 1; have f0 := hblk1.frozen 0)
          | (refine wpList_load_agg rfl _ _ rfl _ _ rfl (rcs (b.drop k) 0) (aggR _ _) (blk_cells ((setR0 hblk1 (b.drop k)).blk)) ?_)
          | (refine wpList_store_agg rfl _ _ _ rfl _ _ rfl (rcs (b.drop k) 0).toArray rfl (aggR _ _) ((setR0 hblk1 (b.drop k)).other hblk2 hne2) (Nat.le_refl 2) (oneR _ _) ?_; intro w4 hp4))
        refine bodyPost_ret (results_agg2 rfl rfl (aggR (b.drop k) 0) (blk_cells hp4.blk)) rfl ?_
        exact ⟨rfl, bx_put (bx_put hbA (setR0 hblk1 (b.drop k)) (Nat.le_refl _)) hp4 hle2⟩
  · have hs : rawS ⟨b, e⟩ n = ⟨b, e⟩ ∧ rawV ⟨b, e⟩ n = [] := ⟨(stuck_raw (s := ⟨b, e⟩) he n).2, (stuck_raw (s := ⟨b, e⟩) he n).1⟩
    rw [hs.1, hs.2]
    clear hs
    go_wp2_with (first
      | (refine wpList_alloc rfl _ rfl zeroR ?_; intro g2 w2 hg2 hg2' hblk2 hb2; have hne2 : g2 ≠ w.heap.size := Nat.ne_of_gt (Nat.lt_of_lt_of_le hgs hg2); have hle2 : w.heap.size ≤ g2 := Nat.le_trans hb0.size hg2; have hbA := bx_trans hb0 hb2; have hblk1 := hbx.below hb2 hgs; have c0 := cellR0 hblk1; have c1 := cellR1 hblk1; have f1 := hblk1.frozen 1; have f0 := hblk1.frozen 0)
      | (refine wpList_load_agg rfl _ _ rfl _ _ rfl (rcs b e) (aggR _ _) (blk_cells (hblk1)) ?_)
      | (refine wpList_store_agg rfl _ _ _ rfl _ _ rfl (rcs b e).toArray rfl (aggR _ _) (hblk2) (Nat.le_refl 2) (oneR _ _) ?_; intro w4 hp4))
    refine bodyPost_ret (results_agg2 rfl rfl (aggR b e) (blk_cells hp4.blk)) rfl ?_
    exact ⟨rfl, bx_put (hbA) hp4 hle2⟩
theorem str_get {s : List UInt8} {i : Nat} {c : UInt8} (h : s[i]? = some c) (w : World) : (Instr.index 9 (.string ⟨s.toArray⟩) (.int .i64 (i : Int))).run Try.prog w = .ok (.int .u8 (c.toNat : Int)) w := by
  have hi : i < s.length := (List.getElem?_eq_some_iff.1 h).1
  have hsz : (⟨s.toArray⟩ : ByteArray).size = s.length := by simp [ByteArray.size]
  rw [run_index_string w 9 _ .i64 (i : Int) Try.underlying9, dif_pos (by rw [hsz]; omega)]
  have he : (⟨s.toArray⟩ : ByteArray)[(i : Int).toNat]'(by rw [Int.toNat_natCast, hsz]; exact hi) = c := by
    have := (List.getElem?_eq_some_iff.1 h).2
    simpa [ByteArray.getElem_eq_getElem_data] using this
  rw [he]
theorem add8 (X c : Nat) (h : X < 72057594037927936) (hc : c < 256) : IntKind.u64.wrap (((X * 256 : Nat) : Int) + (c : Int)) = ((X * 256 + c : Nat) : Int) := by
  simp only [IntKind.wrap, IntKind.bits, IntKind.signed]
  simp
  omega
set_option maxRecDepth 100000 in
set_option maxHeartbeats 1000000 in
theorem refNumR_any (w : World) (b : List UInt8) (e n : Int) (hn : n ≤ 9223372036854775807) (hb : b.length ≤ 1000000) :
    Calls Try.prog 39 #[.agg (rcs b e).toArray, .int .i64 n] w fun x w' => x = .returned (.tuple #[.agg (rcs (numS ⟨b, e⟩ n).b (numS ⟨b, e⟩ n).e).toArray, .int .u64 ((numV ⟨b, e⟩ n : Nat) : Int)]) ∧ Below w.heap.size w w' := by
  have hbx := Blk.new w tR (rcs b e).toArray
  have hb0 : Below w.heap.size w (w.alloc (.cells (rcs b e).toArray tR)) := bx_alloc (Below.refl _ _) _
  have hgs : w.heap.size < (w.alloc (.cells (rcs b e).toArray tR)).heap.size := by simp
  by_cases he : e = 0
  · subst he
    by_cases hm : mayB n = true
    · have hm2 := hm
      simp only [mayB, Bool.and_eq_true, decide_eq_true_eq] at hm2
      obtain ⟨n1, n8⟩ := hm2
      have k1 : ¬ n < 1 := by omega
      have k8 : ¬ 8 < n := by omega
      obtain ⟨e, hE⟩ : ∃ e : Int, e = 0 := ⟨_, rfl⟩
      have hS : rawS ⟨b, 0⟩ n = numS ⟨b, 0⟩ n := by unfold rawS numS; rw [if_neg (by omega), if_pos hm]
      have hV : foldV (rawV ⟨b, 0⟩ n) = numV ⟨b, 0⟩ n := by unfold rawV numV; rw [if_neg (by omega), if_pos hm]
      have HL : Hid ((rawV ⟨b, 0⟩ n).length ≤ 8) := by
        refine hid ?_
        unfold rawV
        rw [if_neg (by omega)]
        have := takeV_len ⟨b, 0⟩ n.toNat
        omega
      clear hm hE
      rw [← hV]
      obtain ⟨v, hv⟩ : ∃ v, v = rawV ⟨b, 0⟩ n := ⟨_, rfl⟩
      obtain ⟨s, hs⟩ : ∃ s, s = numS ⟨b, 0⟩ n := ⟨_, rfl⟩
      have hlen8 := HL.out
      rw [← hv] at hlen8 ⊢
      rw [← hs] at hS ⊢
      rcases s with ⟨rb, re⟩
      have HS := hid hS
      have HV := hid hv
      clear hS hV hs hv HL
      go_enter Try.func39, Try.ntmps39
      go_wp2_with (first
        | (refine wpList_alloc rfl _ rfl zeroR ?_; intro g2 w2 hg2 hg2' hblk2 hb2; have hne2 : g2 ≠ w.heap.size := Nat.ne_of_gt (Nat.lt_of_lt_of_le hgs hg2); have hle2 : w.heap.size ≤ g2 := Nat.le_trans hb0.size hg2; have hbA := bx_trans hb0 hb2; have hblk1 := hbx.below hb2 hgs; have c0 := cellR0 hblk1; have c1 := cellR1 hblk1; have f1 := hblk1.frozen 1; have f0 := hblk1.frozen 0)
        | (refine wpList_load_agg rfl _ _ rfl _ _ rfl (rcs b 0) (aggR _ _) (blk_cells (hblk1)) ?_))
      refine (refRaw_any w2 b 0 n hn hb).mono ?_
      rintro x w3 ⟨rfl, hb3⟩
      rw [HS.out, ← HV.out]
      clear HS HV c0 c1 f0 f1
      skip
      have hsz : (⟨v.toArray⟩ : ByteArray).size = v.length := by simp [ByteArray.size]
      go_wp2_with (refine wpList_store_agg rfl _ _ _ rfl _ _ rfl (rcs rb re).toArray rfl (aggR _ _) (hblk1.below hb3 hblk1.lt) (Nat.le_refl 2) (oneR _ _) ?_; intro w4 hp4)
      have hblk4 := hp4.blk
      rw [splR] at hblk4
      have hblk24 := hp4.other (hblk2.below hb3 hg2') hne2
      have hb04 := bx_put (bx_trans hbA hb3) hp4 (Nat.le_refl _)
      clear hblk1 hblk2 hbA hb3 hp4 hbx hb0 hb2 hg2 hg2'
      go_loopw [7, 8] (fun y j wr => ∃ (i : Nat), i ≤ v.length ∧ y = .int .u64 ((foldV (v.take i) : Nat) : Int) ∧ j = .int .i64 i ∧ Below w4.heap.size w4 wr) (fun _ j _ => v.length - (intOf j).toNat)
      case atStart => exact ⟨0, by omega, rfl, rfl, Below.refl _ _⟩
      case round =>
        obtain ⟨i, hi, rfl, rfl, hbr⟩ := hrel
        by_cases hlt : i < v.length
        · have hfs : foldV (v.take (i + 1)) = foldV (v.take i) * 256 + (v[i]).toNat := by rw [List.take_succ_eq_append_getElem hlt, foldV_snoc]
          have hfl := foldV_lt (v.take i)
          rw [List.length_take, Nat.min_eq_left (by omega)] at hfl
          have hpw := pow8 (k := i) (by omega)
          have hg := str_get (List.getElem?_eq_getElem hlt)
          have hc8 := (v[i]).toNat_lt
          have HFS := hid hfs
          clear hfs
          generalize v[i] = c at *
          generalize foldV (v.take i) = X at *
          have hX : X < 72057594037927936 := by omega
          have h1 := shl8 X hX
          have h2 := add8 X c.toNat hX hc8
          have h3 : IntKind.u64.wrap (c.toNat : Int) = (c.toNat : Int) := by simp only [IntKind.wrap, IntKind.bits, IntKind.signed]; simp; omega
          clear hfl hpw
          generalize hP : X * 256 = P at *
          have HP := hid hP
          clear hP
          go_wp2
          go_roundw
          case rel => exact ⟨i + 1, by omega, by rw [HFS.out, Int.natCast_add], by go_num, hbr⟩
          case measure => simp [intOf]; omega
        · have hil : i = v.length := by omega
          have hfin : foldV (v.take i) = foldV v := by rw [hil, List.take_length]
          rw [hfin]
          clear hfin hil
          have hblk5 := hblk4.below hbr hblk4.lt
          have hblk25 := hblk24.below hbr hblk24.lt
          go_wp2_with (first | (refine wpList_load_agg rfl _ _ rfl _ _ rfl (rcs rb re) (aggR _ _) (blk_cells (hblk5)) ?_) | (refine wpList_store_agg rfl _ _ _ rfl _ _ rfl (rcs rb re).toArray rfl (aggR _ _) (hblk25) (Nat.le_refl 2) (oneR _ _) ?_; intro w6 hp6))
          refine bodyPost_ret (results_agg2 rfl rfl (aggR rb re) (blk_cells hp6.blk)) rfl ?_
          exact ⟨rfl, bx_put (bx_trans hb04 hbr) hp6 hle2⟩
    · have hs : numS ⟨b, 0⟩ n = ⟨b, 1⟩ ∧ numV ⟨b, 0⟩ n = 0 := by unfold numS numV argS; rw [if_neg hm, if_neg hm, if_pos rfl]; exact ⟨rfl, rfl⟩
      rw [hs.1, hs.2]
      have hout : n < 1 ∨ 8 < n := by
        simp only [mayB, Bool.and_eq_true, decide_eq_true_eq] at hm
        omega
      clear hs hm
      go_enter Try.func39, Try.ntmps39
      rcases hout with ho | ho
      · go_wp2_with (first
          | (refine wpList_alloc rfl _ rfl zeroR ?_; intro g2 w2 hg2 hg2' hblk2 hb2; have hne2 : g2 ≠ w.heap.size := Nat.ne_of_gt (Nat.lt_of_lt_of_le hgs hg2); have hle2 : w.heap.size ≤ g2 := Nat.le_trans hb0.size hg2; have hbA := bx_trans hb0 hb2; have hblk1 := hbx.below hb2 hgs; have c0 := cellR0 hblk1; have c1 := cellR1 hblk1; have f1 := hblk1.frozen 1; have f0 := hblk1.frozen 0)
          | (refine wpList_load_agg rfl _ _ rfl _ _ rfl (rcs b 1) (aggR _ _) (blk_cells ((setR1 hblk1 1).blk)) ?_)
          | (refine wpList_store_agg rfl _ _ _ rfl _ _ rfl (rcs b 1).toArray rfl (aggR _ _) ((setR1 hblk1 1).other hblk2 hne2) (Nat.le_refl 2) (oneR _ _) ?_; intro w4 hp4))
        refine bodyPost_ret (results_agg2 rfl rfl (aggR b 1) (blk_cells hp4.blk)) rfl ?_
        exact ⟨rfl, bx_put (bx_put hbA (setR1 hblk1 1) (Nat.le_refl _)) hp4 hle2⟩
      · have ho1 : ¬ n < 1 := by omega
        go_wp2_with (first
          | (refine wpList_alloc rfl _ rfl zeroR ?_; intro g2 w2 hg2 hg2' hblk2 hb2; have hne2 : g2 ≠ w.heap.size := Nat.ne_of_gt (Nat.lt_of_lt_of_le hgs hg2); have hle2 : w.heap.size ≤ g2 := Nat.le_trans hb0.size hg2; have hbA := bx_trans hb0 hb2; have hblk1 := hbx.below hb2 hgs; have c0 := cellR0 hblk1; have c1 := cellR1 hblk1; have f1 := hblk1.frozen 1; have f0 := hblk1.frozen 0)
          | (refine wpList_load_agg rfl _ _ rfl _ _ rfl (rcs b 1) (aggR _ _) (blk_cells ((setR1 hblk1 1).blk)) ?_)
          | (refine wpList_store_agg rfl _ _ _ rfl _ _ rfl (rcs b 1).toArray rfl (aggR _ _) ((setR1 hblk1 1).other hblk2 hne2) (Nat.le_refl 2) (oneR _ _) ?_; intro w4 hp4))
        refine bodyPost_ret (results_agg2 rfl rfl (aggR b 1) (blk_cells hp4.blk)) rfl ?_
        exact ⟨rfl, bx_put (bx_put hbA (setR1 hblk1 1) (Nat.le_refl _)) hp4 hle2⟩
  · have hS : rawS ⟨b, e⟩ n = numS ⟨b, e⟩ n := by rw [(stuck_raw (s := ⟨b, e⟩) he n).2, (stuck_num (s := ⟨b, e⟩) he n).2]
    have hV : foldV (rawV ⟨b, e⟩ n) = numV ⟨b, e⟩ n := by rw [(stuck_raw (s := ⟨b, e⟩) he n).1, (stuck_num (s := ⟨b, e⟩) he n).1]; rfl
    have HL : Hid ((rawV ⟨b, e⟩ n).length ≤ 8) := by rw [(stuck_raw (s := ⟨b, e⟩) he n).1]; exact hid (by decide)
    rw [← hV]
    obtain ⟨v, hv⟩ : ∃ v, v = rawV ⟨b, e⟩ n := ⟨_, rfl⟩
    obtain ⟨s, hs⟩ : ∃ s, s = numS ⟨b, e⟩ n := ⟨_, rfl⟩
    have hlen8 := HL.out
    rw [← hv] at hlen8 ⊢
    rw [← hs] at hS ⊢
    rcases s with ⟨rb, re⟩
    have HS := hid hS
    have HV := hid hv
    clear hS hV hs hv HL
    go_enter Try.func39, Try.ntmps39
    go_wp2_with (first
      | (refine wpList_alloc rfl _ rfl zeroR ?_; intro g2 w2 hg2 hg2' hblk2 hb2; have hne2 : g2 ≠ w.heap.size := Nat.ne_of_gt (Nat.lt_of_lt_of_le hgs hg2); have hle2 : w.heap.size ≤ g2 := Nat.le_trans hb0.size hg2; have hbA := bx_trans hb0 hb2; have hblk1 := hbx.below hb2 hgs; have c0 := cellR0 hblk1; have c1 := cellR1 hblk1; have f1 := hblk1.frozen 1; have f0 := hblk1.frozen 0)
      | (refine wpList_load_agg rfl _ _ rfl _ _ rfl (rcs b e) (aggR _ _) (blk_cells (hblk1)) ?_))
    refine (refRaw_any w2 b e n hn hb).mono ?_
    rintro x w3 ⟨rfl, hb3⟩
    rw [HS.out, ← HV.out]
    clear HS HV c0 c1 f0 f1
    skip
    have hsz : (⟨v.toArray⟩ : ByteArray).size = v.length := by simp [ByteArray.size]
    go_wp2_with (refine wpList_store_agg rfl _ _ _ rfl _ _ rfl (rcs rb re).toArray rfl (aggR _ _) (hblk1.below hb3 hblk1.lt) (Nat.le_refl 2) (oneR _ _) ?_; intro w4 hp4)
    have hblk4 := hp4.blk
    rw [splR] at hblk4
    have hblk24 := hp4.other (hblk2.below hb3 hg2') hne2
    have hb04 := bx_put (bx_trans hbA hb3) hp4 (Nat.le_refl _)
    clear hblk1 hblk2 hbA hb3 hp4 hbx hb0 hb2 hg2 hg2'
    go_loopw [7, 8] (fun y j wr => ∃ (i : Nat), i ≤ v.length ∧ y = .int .u64 ((foldV (v.take i) : Nat) : Int) ∧ j = .int .i64 i ∧ Below w4.heap.size w4 wr) (fun _ j _ => v.length - (intOf j).toNat)
    case atStart => exact ⟨0, by omega, rfl, rfl, Below.refl _ _⟩
    case round =>
      obtain ⟨i, hi, rfl, rfl, hbr⟩ := hrel
      by_cases hlt : i < v.length
      · have hfs : foldV (v.take (i + 1)) = foldV (v.take i) * 256 + (v[i]).toNat := by rw [List.take_succ_eq_append_getElem hlt, foldV_snoc]
        have hfl := foldV_lt (v.take i)
        rw [List.length_take, Nat.min_eq_left (by omega)] at hfl
        have hpw := pow8 (k := i) (by omega)
        have hg := str_get (List.getElem?_eq_getElem hlt)
        have hc8 := (v[i]).toNat_lt
        have HFS := hid hfs
        clear hfs
        generalize v[i] = c at *
        generalize foldV (v.take i) = X at *
        have hX : X < 72057594037927936 := by omega
        have h1 := shl8 X hX
        have h2 := add8 X c.toNat hX hc8
        have h3 : IntKind.u64.wrap (c.toNat : Int) = (c.toNat : Int) := by simp only [IntKind.wrap, IntKind.bits, IntKind.signed]; simp; omega
        clear hfl hpw
        generalize hP : X * 256 = P at *
        have HP := hid hP
        clear hP
        go_wp2
        go_roundw
        case rel => exact ⟨i + 1, by omega, by rw [HFS.out, Int.natCast_add], by go_num, hbr⟩
        case measure => simp [intOf]; omega
      · have hil : i = v.length := by omega
        have hfin : foldV (v.take i) = foldV v := by rw [hil, List.take_length]
        rw [hfin]
        clear hfin hil
        have hblk5 := hblk4.below hbr hblk4.lt
        have hblk25 := hblk24.below hbr hblk24.lt
        go_wp2_with (first | (refine wpList_load_agg rfl _ _ rfl _ _ rfl (rcs rb re) (aggR _ _) (blk_cells (hblk5)) ?_) | (refine wpList_store_agg rfl _ _ _ rfl _ _ rfl (rcs rb re).toArray rfl (aggR _ _) (hblk25) (Nat.le_refl 2) (oneR _ _) ?_; intro w6 hp6))
        refine bodyPost_ret (results_agg2 rfl rfl (aggR rb re) (blk_cells hp6.blk)) rfl ?_
        exact ⟨rfl, bx_put (bx_trans hb04 hbr) hp6 hle2⟩
set_option maxRecDepth 100000 in
set_option maxHeartbeats 1000000 in
theorem refEnd_any (w : World) (b : List UInt8) (e : Int) :
    Calls Try.prog 42 #[.agg (rcs b e).toArray] w fun x w' => x = .returned (.int .i64 (endE ⟨b, e⟩)) ∧ Below w.heap.size w w' := by
  have hbx := Blk.new w tR (rcs b e).toArray
  have hb0 : Below w.heap.size w (w.alloc (.cells (rcs b e).toArray tR)) := bx_alloc (Below.refl _ _) _
  have c0 := cellR0 hbx
  have c1 := cellR1 hbx
  have f0 := hbx.frozen 0
  have f1 := hbx.frozen 1
  unfold endE
  clear hbx
  by_cases he : e = 0
  · subst he
    rw [if_neg (show ¬ (⟨b, 0⟩ : RS).e ≠ 0 from fun h => h rfl)]
    cases b with
    | nil =>
      rw [if_pos (show (⟨[], 0⟩ : RS).b.length = 0 from rfl)]
      go_enter Try.func42, Try.ntmps42
      go_wp2
      go_ret
      exact ⟨rfl, hb0⟩
    | cons x r =>
      rw [if_neg (show ¬ (⟨x :: r, 0⟩ : RS).b.length = 0 from fun h => by cases h)]
      have hie : (x :: r).isEmpty = false := rfl
      generalize x :: r = b at *
      go_enter Try.func42, Try.ntmps42
      go_wp2
      go_ret
      exact ⟨rfl, hb0⟩
  · have hs : (⟨b, e⟩ : RS).e ≠ 0 := he
    rw [if_pos hs]
    go_enter Try.func42, Try.ntmps42
    go_wp2
    go_ret
    exact ⟨rfl, hb0⟩
end Go.Proofs.Ythbmmilefimpaaa
