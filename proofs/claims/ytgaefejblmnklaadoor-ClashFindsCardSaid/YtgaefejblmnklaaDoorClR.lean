
/- Clashes: two entries of one narrow hash. -/
import Derived.Test.YtgaefejblmnklaaDoorClPQ
namespace Go.Proofs.YtgaefejblmnklaaDoor
open Go.RowKit
set_option linter.unusedVariables false
/-- The entry of a number. -/
def entN (fr : UInt8) (i : Nat) : List UInt8 := [fr, UInt8.ofNat (i % 256), UInt8.ofNat (i / 256 % 256)]
/-- The first byte of its hash. -/
def keyN (fr : UInt8) (i : Nat) : Nat := ((narL 1 (0 :: entN fr i)).getD 0 0).toNat
theorem keyN_lt (fr : UInt8) (i : Nat) : keyN fr i < 256 := UInt8.toNat_lt _
def zerosN (n : Nat) : List Nat := List.replicate n 0
def seenTo (fr : UInt8) (i : Nat) : List Nat := (List.range i).foldl (fun s j => s.set (keyN fr j) (j + 1)) (zerosN 256)
theorem seenTo_succ (fr : UInt8) (i : Nat) : seenTo fr (i + 1) = (seenTo fr i).set (keyN fr i) (i + 1) := by
  unfold seenTo
  rw [List.range_succ, List.foldl_append]
  rfl
theorem seenTo_len (fr : UInt8) : ∀ i, (seenTo fr i).length = 256
  | 0 => List.length_replicate
  | i + 1 => by rw [seenTo_succ, List.length_set, seenTo_len fr i]
theorem seen_some (fr : UInt8) (i : Nat) : ∀ (v : Nat) (h : v < (seenTo fr i).length), 0 < (seenTo fr i)[v] → ∃ k, k < i ∧ (seenTo fr i)[v] = k + 1 ∧ keyN fr k = v := by
  induction i with
  | zero =>
    intro v h h0
    have : (seenTo fr 0)[v] = 0 := List.getElem_replicate (n := 256) (a := 0) h
    rw [this] at h0
    exact absurd h0 (Nat.lt_irrefl _)
  | succ i ih =>
    intro v h h0
    have hl : v < (seenTo fr i).length := by rw [seenTo_len] at h ⊢; exact h
    have hs : (seenTo fr (i + 1))[v] = ((seenTo fr i).set (keyN fr i) (i + 1))[v]'(by rw [List.length_set]; exact hl) := by simp only [seenTo_succ]
    rw [hs] at h0 ⊢
    rw [List.getElem_set] at h0 ⊢
    by_cases hv : keyN fr i = v
    · rw [if_pos hv]
      exact ⟨i, Nat.lt_succ_self i, rfl, hv⟩
    · rw [if_neg hv] at h0 ⊢
      obtain ⟨k, h1, h2, h3⟩ := ih v hl h0
      exact ⟨k, Nat.lt_succ_of_lt h1, h2, h3⟩
theorem seen_all (fr : UInt8) (i : Nat) : ∀ k, k < i → ∀ h : keyN fr k < (seenTo fr i).length, 0 < (seenTo fr i)[keyN fr k] := by
  induction i with
  | zero => intro k hk; exact absurd hk (Nat.not_lt_zero _)
  | succ i ih =>
    intro k hk h
    have hl : keyN fr k < (seenTo fr i).length := by rw [seenTo_len]; exact keyN_lt _ _
    have hs : (seenTo fr (i + 1))[keyN fr k] = ((seenTo fr i).set (keyN fr i) (i + 1))[keyN fr k]'(by rw [List.length_set]; exact hl) := by simp only [seenTo_succ]
    rw [hs, List.getElem_set]
    by_cases hne : keyN fr i = keyN fr k
    · rw [if_pos hne]
      exact Nat.succ_pos _
    · rw [if_neg hne]
      have hki : k ≠ i := by rintro rfl; exact hne rfl
      exact ih k (by omega) hl
/-- All are different so far. -/
def allNew (fr : UInt8) (i : Nat) : Prop := ∀ j, j < i → ∀ k, k < j → keyN fr k ≠ keyN fr j
theorem allNew_few {fr : UInt8} {i : Nat} (h : allNew fr i) : i ≤ 256 := by
  have hnd : ((List.range i).map (keyN fr)).Nodup := by
    rw [List.nodup_iff_pairwise_ne, List.pairwise_map]
    rw [List.pairwise_iff_getElem]
    intro a b ha hb hab
    rw [List.getElem_range, List.getElem_range]
    rw [List.length_range] at ha hb
    exact h b hb a hab
  have hsub : ∀ x ∈ (List.range i).map (keyN fr), x ∈ List.range 256 := by
    intro x hx
    obtain ⟨j, _, rfl⟩ := List.mem_map.1 hx
    exact List.mem_range.2 (keyN_lt _ _)
  have := hnd.length_le_of_subset hsub
  simpa using this
theorem allNew_succ {fr : UInt8} {i : Nat} (h : allNew fr i) (h0 : ∀ hl : keyN fr i < (seenTo fr i).length, (seenTo fr i)[keyN fr i] = 0) : allNew fr (i + 1) := by
  intro j hj k hk
  by_cases hji : j = i
  · subst hji
    intro e
    have hl : keyN fr k < (seenTo fr j).length := by rw [seenTo_len]; exact keyN_lt _ _
    have h1 := seen_all fr j k hk hl
    have h2 := h0 (by rw [← e]; exact hl)
    simp only [e] at h1
    omega
  · exact h j (by omega) k hk
theorem cut1_eq {x y : List UInt8} (hx : x.length = 32) (hy : y.length = 32) (h : (cutL 1 x).getD 0 0 = (cutL 1 y).getD 0 0) : cutL 1 x = cutL 1 y := by
  cases x with
  | nil => simp at hx
  | cons a x =>
    cases y with
    | nil => simp at hy
    | cons b y =>
      unfold cutL at h ⊢
      obtain rfl : a = b := by simpa using h
      rw [hx, hy]
      rfl
theorem wide1 : wideN 1 = 1 := rfl
theorem key_hash {fr : UInt8} {k i : Nat} (h : keyN fr k = keyN fr i) : narL 1 (0 :: entN fr k) = narL 1 (0 :: entN fr i) := by
  have h2 : (narL 1 (0 :: entN fr k)).getD 0 0 = (narL 1 (0 :: entN fr i)).getD 0 0 := UInt8.toNat_inj.1 h
  unfold narL at h2 ⊢
  rw [wide1] at h2 ⊢
  exact cut1_eq (shaL_length _) (shaL_length _) h2
theorem entN_inj {fr : UInt8} {k i : Nat} (hk : k < 300) (hi : i < 300) (h : entN fr k = entN fr i) : k = i := by
  unfold entN at h
  injection h with _ h
  injection h with h1 h
  injection h with h2 _
  have e1 : k % 256 = i % 256 := by
    have := congrArg UInt8.toNat h1
    simpa [UInt8.toNat_ofNat'] using this
  have e2 : k / 256 % 256 = i / 256 % 256 := by
    have := congrArg UInt8.toNat h2
    simpa [UInt8.toNat_ofNat'] using this
  omega
def vN (n : Nat) : Value := .int .i64 (n : Int)
theorem seen0 (fr : UInt8) : zrow 256 (.int .i64 0) = ((seenTo fr 0).map vN).toArray := by
  unfold zrow seenTo zerosN
  rw [List.range_zero, List.foldl_nil, List.map_replicate]
  exact Array.toList_inj.1 (Array.toList_replicate ..)
theorem elI : ElT Tryd.prog 50 3 1 8 #[.int .i64 0] := elT_of (z := .int .i64 0) Tryd.underlying50 (by kernel_rfl) rfl (by decide)
theorem entN_cb (fr : UInt8) (i : Nat) (hi : i < 300) : (entN fr i).map cb = [.int .u8 (fr.toNat : Int), .int .u8 ((i % 256 : Nat) : Int), .int .u8 ((i / 256 : Nat) : Int)] := by
  unfold entN
  simp only [List.map_cons, List.map_nil]
  have e1 : cb (UInt8.ofNat (i % 256)) = .int .u8 ((i % 256 : Nat) : Int) := by
    unfold cb
    rw [UInt8.toNat_ofNat']
    congr 1
    omega
  have e2 : cb (UInt8.ofNat (i / 256 % 256)) = .int .u8 ((i / 256 : Nat) : Int) := by
    unfold cb
    rw [UInt8.toNat_ofNat']
    congr 1
    omega
  rw [e1, e2]
  rfl
/-- What pair tells. -/
def PairRet (w : World) (fr : UInt8) (e : Ending) (w' : World) : Prop :=
  Below w.heap.size w w' ∧ ∃ k i va vb, k < i ∧ i < 300 ∧ allNew fr i ∧ keyN fr k = keyN fr i ∧ RdB w' w'.heap.size va (entN fr k) ∧ RdB w' w'.heap.size vb (entN fr i) ∧ e = .returned (.tuple #[va, vb, .bool true])
set_option maxRecDepth 100000 in
set_option maxHeartbeats 4000000 in
theorem pair_any (w : World) (hL : Laid w) (fr : UInt8) : Calls Tryd.prog 9 #[.int .i64 1, .int .u8 (fr.toNat : Int)] w (PairRet w fr) := by
  have hmk : ∀ w : World, (Instr.makeSlice 50 (.int .i64 256) (.int .i64 256)).run Tryd.prog w = .ok (.slice (some ⟨w.heap.size, 0, none⟩) 256 256) (w.alloc (.cells (zrow 256 (.int .i64 0)) 3)) := run_mk1 elI .i64 .i64 256 (by decide) (by decide)
  have hs0 : Blk (w.alloc (.cells (zrow 256 (.int .i64 0)) 3)) w.heap.size 3 ((seenTo fr 0).map vN).toArray := by rw [← seen0]; exact Blk.new w _ _
  have hb0 : Below w.heap.size w (w.alloc (.cells (zrow 256 (.int .i64 0)) 3)) := bx_alloc (Below.refl _ _) _
  have HL := hid hL
  clear hL
  go_enter Tryd.func9, Tryd.ntmps9
  go_wp2_with fail
  obtain ⟨gS, hgS⟩ : ∃ gS, gS = w.heap.size := ⟨_, rfl⟩
  have hgw : w.heap.size ≤ gS := by omega
  rw [← hgS] at hs0 ⊢
  clear hgS
  generalize (w.alloc (.cells (zrow 256 (.int .i64 0)) 3)) = w1 at *
  go_loopw [8, 9, 10, 11] (fun v8 _ _ _ wr => ∃ i : Nat, i ≤ 300 ∧ v8 = .int .i64 (i : Int) ∧ Hid (allNew fr i) ∧ Blk wr gS 3 ((seenTo fr i).map vN).toArray ∧ Below w.heap.size w wr) (fun v8 _ _ _ _ => 300 - (intOf v8).toNat)
  case atStart => exact ⟨0, by omega, rfl, hid (fun j hj => by omega), hs0, hb0⟩
  case round =>
    obtain ⟨i, hi, rfl, HAN, hs, hbr⟩ := hrel
    rename World => wr
    clear hs0 hb0
    by_cases hlt : i < 300
    · have h256 : i < 65536 := by omega
      have hent : (#[.int .u8 (fr.toNat : Int), .int .u8 ((i : Int) % 256), .int .u8 ((i : Int) / 256)] : Array Value).toList = (entN fr i).map cb := by
        rw [entN_cb fr i hlt]
        rfl
      have hrd := rd_of_row (w := wr.alloc (.cells #[.int .u8 (fr.toNat : Int), .int .u8 ((i : Int) % 256), .int .u8 ((i : Int) / 256)] tU8)) (heap_new rfl) hent
      have hbA : Below wr.heap.size wr (wr.alloc (.cells #[.int .u8 (fr.toNat : Int), .int .u8 ((i : Int) % 256), .int .u8 ((i : Int) / 256)] tU8)) := bx_alloc (Below.refl _ _) _
      have hLf := Leaf_any _ (HL.out.below (bx_trans hbr hbA)) (c := 3) (l := entN fr i) hrd (Nat.le_refl _) (Nat.le_refl _) (by simp [entN])
      have HLF := hid hLf
      have HRD := hid hrd
      clear hLf hrd hent
      go_wp2_with fail
      refine HLF.out.mono ?_
      rintro e w3 ⟨rfl, hb3⟩
      have HRD3 := hid (HRD.out.below hb3)
      have hb03 := bx_trans (bx_trans hbr hbA) hb3
      have hs3 := hs.below (bx_trans hbA hb3) hs.lt
      have hgr : gS < wr.heap.size := hs.lt
      have hgA := hbA.size
      have hg3 := hb3.size
      clear HLF HRD hs hbA hb3 hbr
      go_wp2_with fail
      refine (Cut_any w3 1 (shaL_length _)).mono ?_
      rintro e w4 ⟨rfl, hb4⟩
      rw [show cutL (wideN 1) (shaL (0 :: entN fr i)) = narL 1 (0 :: entN fr i) from rfl]
      have hxl := narL_len 1 (0 :: entN fr i)
      obtain ⟨X, hX⟩ : ∃ X, X = narL 1 (0 :: entN fr i) := ⟨_, rfl⟩
      have hkey : keyN fr i = (X.getD 0 0).toNat := by rw [hX]; rfl
      rw [← hX] at hxl ⊢
      obtain ⟨K, hK⟩ : ∃ K, K = keyN fr i := ⟨_, rfl⟩
      have hK256 : K < 256 := by rw [hK]; exact keyN_lt _ _
      have hx0 : (X.map cb)[0]? = some (.int .u8 (K : Int)) := by
        cases X with
        | nil => simp at hxl
        | cons a X =>
          rw [hK, hkey]
          rfl
      have hKl : K < (seenTo fr i).length := by rw [seenTo_len]; exact hK256
      have hcS : ∀ W : World, Blk W gS 3 ((seenTo fr i).map vN).toArray → W.cell? ⟨gS, K, none⟩ = some (.int .i64 ((seenTo fr i)[K] : Int)) := by
        intro W hW
        rw [hW.cell, List.getElem?_toArray, List.getElem?_map, List.getElem?_eq_getElem hKl]
        rfl
      have hsome := seen_some fr i K hKl
      have hnone : (seenTo fr i)[K] = 0 → allNew fr (i + 1) := fun h => allNew_succ HAN.out (fun hl => by simp only [← hK]; exact h)
      have hsl : (seenTo fr i)[K] < 1000 := by
        rcases Nat.eq_zero_or_pos (seenTo fr i)[K] with h | h
        · omega
        · obtain ⟨k, h1, h2, _⟩ := hsome h
          omega
      have hsucc : seenTo fr (i + 1) = (seenTo fr i).set K (i + 1) := by rw [hK]; exact seenTo_succ fr i
      have HSC := hid hsucc
      have HK := hid hK
      have HCS := hid hcS
      have HSM := hid hsome
      have HNN := hid hnone
      have HX0 := hid hx0
      have hs4 := hs3.below hb4 hs3.lt
      have hb04 := bx_trans hb03 hb4
      have HRD4 := hid ((HRD3.out.below (hb4.mono hg3)).more (Nat.le_trans hg3 hb4.size))
      generalize hSK : (seenTo fr i)[K] = s at *
      clear hX hkey hx0 hcS hsome hnone hsucc hK hSK hs3 hb03 HRD3 hKl
      rcases Nat.eq_zero_or_pos s with hs0 | hs0
      · subst hs0
        go_wp2_with (first
          | ((with_reducible refine wpAtC ?_); refine wpList_alloc (w := w4) rfl _ rfl zeroH ?_; intro g10 w5 hg10 hg10' hz10 hb5; simp only [Act.put, List.setIfInBounds_toArray, List.set_cons_succ, List.set_cons_zero])
          | ((with_reducible refine wpAtC ?_); refine wpList_store_agg rfl _ _ _ rfl _ _ rfl (X.map cb).toArray rfl (aggHS hxl) hz10 (szH hxl) (one_cbA _) ?_; intro w6 hp6; simp only [Act.put]; rw [splH hxl] at hp6; have hb46 := bx_put hb5 hp6 hg10; have hs6 := hs4.below hb46 hs4.lt; have cS := HCS.out _ hs6; have fS := hs6.frozen K; have cX : w6.cell? ⟨g10, 0, none⟩ = some (.int .u8 (K : Int)) := (by rw [hp6.blk.cell, List.getElem?_toArray]; exact HX0.out)))
        have hp7 := setCell_put hs6 (i := K) (.int .i64 ((i : Int) + 1))
        rw [List.setIfInBounds_toArray, show (Value.int .i64 ((i : Int) + 1)) = vN (i + 1) from rfl, ← List.map_set, ← HSC.out] at hp7
        have hb46' := bx_put (bx_trans hb04 hb46) hp7 hgw
        have HB7 := hid hp7.blk
        have HAN1 := hid (HNN.out (by simp))
        clear cS fS cX hs6 hp6 hb46 hb5 hz10 hp7 hs4 hb04
        refine ⟨⟨i + 1, by omega, rfl, HAN1, HB7.out, hb46'⟩, ?_⟩
        simp [intOf]; omega
      · obtain ⟨k, h1, h2, h3⟩ := HSM.out hs0
        subst h2
        have hk300 : k < 300 := by omega
        have HKK := hid h3
        have hk1 : (((k + 1 : Nat) : Int)) - 1 = (k : Int) := by omega
        have hk0 : (0 : Int) < ((k + 1 : Nat) : Int) := by omega
        have hk65 : (k : Int) < 65536 := by omega
        clear h3
        go_wp2_with (first
          | ((with_reducible refine wpAtC ?_); refine wpList_alloc (w := w4) rfl _ rfl zeroH ?_; intro g10 w5 hg10 hg10' hz10 hb5; simp only [Act.put, List.setIfInBounds_toArray, List.set_cons_succ, List.set_cons_zero])
          | ((with_reducible refine wpAtC ?_); refine wpList_store_agg rfl _ _ _ rfl _ _ rfl (X.map cb).toArray rfl (aggHS hxl) hz10 (szH hxl) (one_cbA _) ?_; intro w6 hp6; simp only [Act.put]; rw [splH hxl] at hp6; have hb46 := bx_put hb5 hp6 hg10; have hs6 := hs4.below hb46 hs4.lt; have cS := HCS.out _ hs6; have fS := hs6.frozen K; have cX : w6.cell? ⟨g10, 0, none⟩ = some (.int .u8 (K : Int)) := (by rw [hp6.blk.cell, List.getElem?_toArray]; exact HX0.out)))
        have hent : (#[.int .u8 (fr.toNat : Int), .int .u8 ((k : Int) % 256), .int .u8 ((k : Int) / 256)] : Array Value).toList = (entN fr k).map cb := by
          rw [entN_cb fr k hk300]
          rfl
        have hbF : Below w6.heap.size w6 (w6.alloc (.cells #[.int .u8 (fr.toNat : Int), .int .u8 ((k : Int) % 256), .int .u8 ((k : Int) / 256)] tU8)) := bx_alloc (Below.refl _ _) _
        have hb4F := bx_trans hb46 hbF
        exact bodyPost_ret (results_tmp3 rfl _ _ _) rfl ⟨bx_trans hb04 hb4F, k, i, _, _, h1, hlt, HAN.out, by rw [HKK.out, HK.out], ⟨_, 3, rfl, Nat.le_refl _, rd_of_row (heap_new rfl) hent⟩, ⟨_, 3, rfl, Nat.le_refl _, (HRD4.out.below hb4F).more hb4F.size⟩, rfl⟩
    · exact absurd (allNew_few HAN.out) (by omega)
end Go.Proofs.YtgaefejblmnklaaDoor
