
/- The document's Get, walked. -/
import Derived.Test.YthbmmilefimpaaaDigS
namespace Go.Proofs.Ythbmmilefimpaaa
open Go.RowKit Go.Maps
set_option linter.unusedVariables false
/-! ### Bytes as a hash -/
def hAt (s : List UInt8) (i : Nat) : List UInt8 := s.take i ++ List.replicate (32 - i) 0
def hpad (s : List UInt8) : List UInt8 := hAt s (min 32 s.length)
theorem hAt_len {s : List UInt8} {i : Nat} (h : i ≤ s.length) (h2 : i ≤ 32) : (hAt s i).length = 32 := by
  unfold hAt
  rw [List.length_append, List.length_take, List.length_replicate]
  omega
theorem hpad_take (s : RS) : hpad (takeV s 32) = hashV s := by
  unfold hashV hpad
  rcases takeV32 s with h | h
  · rw [if_pos h, h]
    unfold hAt
    rw [show min 32 32 = (takeV s 32).length from by rw [h]; rfl, List.take_length]
    rw [h]
    exact List.append_nil _
  · rw [h, if_neg (by decide)]
    rfl
theorem hAt_set {s : List UInt8} {i : Nat} {c : UInt8} (h : s[i]? = some c) (h2 : i < 32) : ((hAt s i).map cb).toArray.setIfInBounds i (cb c) = ((hAt s (i + 1)).map cb).toArray := by
  have hi : i < s.length := (List.getElem?_eq_some_iff.1 h).1
  have hc : s[i] = c := (List.getElem?_eq_some_iff.1 h).2
  rw [List.setIfInBounds_toArray]
  congr 1
  rw [← List.map_set]
  congr 1
  unfold hAt
  rw [List.take_succ_eq_append_getElem hi, hc, show 32 - i = (32 - (i + 1)) + 1 by omega, List.replicate_succ, List.set_append_right _ _ (by rw [List.length_take]; omega), List.length_take, Nat.min_eq_left (by omega), Nat.sub_self, List.set_cons_zero, List.append_assoc]
  rfl
theorem storeH {ops : Array Oper} {rest : List Oper} {o : Oper} {a : Act} {w : World} {Q : Exit → Act → World → Prop} (hgd : o.guard = none) {x y : Operand} (ho : o.op = .store 52 x y) {g : Nat} (hx : a.eval x = .pointer (some ⟨g, 0, none⟩)) {k : List UInt8} (hy : a.eval y = .agg (hc k).toArray) (hk : hOk k)
    (hz : Blk w g 52 (Value.agg (hc (List.replicate 32 0)).toArray).cells) (h : ∀ w1, Put w w1 g 52 (hc k).toArray → wpList Try.prog ops Q rest (a.put o.dst undef) w1) : wpList Try.prog ops Q (o :: rest) a w :=
  wpList_store_agg hgd _ _ _ ho g 0 hx (hc k).toArray hy (aggSH hk) hz (szDH hk) (oneAH k) (fun w1 hp => h w1 (by rw [splDH hk] at hp; exact hp))
theorem loadH {ops : Array Oper} {rest : List Oper} {o : Oper} {a : Act} {w : World} {Q : Exit → Act → World → Prop} (hgd : o.guard = none) {x : Operand} (ho : o.op = .load 52 x) {g : Nat} (hx : a.eval x = .pointer (some ⟨g, 0, none⟩)) {k : List UInt8} (hb : Blk w g 52 (hc k).toArray) (hk : hOk k)
    (h : wpList Try.prog ops Q rest (a.put o.dst (.agg (hc k).toArray)) w) : wpList Try.prog ops Q (o :: rest) a w :=
  wpList_load_agg hgd _ _ ho g 0 hx (hc k) (aggHc hk) (blk_cells hb) h
set_option maxRecDepth 10000 in
set_option maxHeartbeats 1000000 in
theorem refHash_any (w : World) (s : List UInt8) (hl : s.length ≤ 1000000) :
    Calls Try.prog 41 #[.string ⟨s.toArray⟩] w fun e w' => e = .returned (.agg (hc (hpad s)).toArray) ∧ Below w.heap.size w w' := by
  have hsz : (⟨s.toArray⟩ : ByteArray).size = s.length := by simp [ByteArray.size]
  go_enter Try.func41, Try.ntmps41
  go_wp2_with (with_reducible refine wpAt ?_; refine wpList_alloc rfl _ rfl zrDH ?_; intro g3 w3 hg3 hg3' hblk3 hb3; simp only [Act.put, List.setIfInBounds_toArray, List.set_cons_succ, List.set_cons_zero])
  rename_i g2 w2 hg2 hg2' hblk2 hb2 _ _
  have hblk23 := hblk2.below hb3 hg2'
  have hb03 := bx_trans hb2 hb3
  have h23 : g2 < g3 := Nat.lt_of_lt_of_le hg2' hg3
  have hblk0 : Blk w3 g3 52 ((hAt s 0).map cb).toArray := hblk3
  clear hblk2 hb2 hb3 hblk3
  go_loopw [4] (fun j wr => ∃ (i : Nat), i ≤ s.length ∧ i ≤ 32 ∧ j = .int .i64 i ∧ Blk wr g3 52 ((hAt s i).map cb).toArray ∧ Blk wr g2 52 (Value.agg (hc (List.replicate 32 0)).toArray).cells ∧ Below w.heap.size w wr) (fun j _ => 32 - (intOf j).toNat)
  case atStart => exact ⟨0, by omega, by omega, rfl, hblk0, hblk23, hb03⟩
  case round =>
    obtain ⟨i, hi, hi32, rfl, hblk, hblkr, hbr⟩ := hrel
    clear hblk0 hblk23 hb03
    by_cases hlt : i < 32
    · by_cases hls : i < s.length
      · have hg := str_get (List.getElem?_eq_getElem hls)
        have hset := hAt_set (List.getElem?_eq_getElem hls) hlt
        have hlen := hAt_len (s := s) (i := i) (by omega) (by omega)
        have hci := hblk.cell i
        have hfi := hblk.frozen i
        have hin : i < ((hAt s i).map cb).toArray.size := by rw [List.size_toArray, List.length_map, hlen]; exact hlt
        obtain ⟨c0, hc0⟩ : ∃ c0, ((hAt s i).map cb).toArray[i]? = some c0 := ⟨_, Array.getElem?_eq_getElem hin⟩
        rw [hc0] at hci
        have HSET := hid hset
        have hp := setCell_put hblk (i := i) (cb s[i])
        rw [hset] at hp
        have HP := hid hp
        clear hset hp hc0 hin
        generalize hcv : s[i] = c at *
        have hcb : cb c = .int .u8 (c.toNat : Int) := rfl
        rw [hcb] at HP
        go_wp2
        have hp := HP.out
        go_roundw
        case rel => exact ⟨i + 1, by omega, by omega, by go_num, hp.blk, hp.other hblkr (by omega), bx_put hbr hp (by omega)⟩
        case measure => simp [intOf]; omega
      · obtain rfl : i = s.length := by omega
        have hfin : hAt s s.length = hpad s := by unfold hpad; rw [Nat.min_eq_right hi32]
        rw [hfin] at hblk
        have hok : hOk (hpad s) := by rw [← hfin]; exact hAt_len (Nat.le_refl _) hi32
        clear hfin
        go_wp2_with (first
          | (with_reducible refine wpAt ?_; refine loadH rfl rfl rfl hblk hok ?_; simp only [Act.put, List.setIfInBounds_toArray, List.set_cons_succ, List.set_cons_zero])
          | (with_reducible refine wpAt ?_; refine storeH rfl rfl rfl rfl hok hblkr ?_; intro w6 hput6; simp only [Act.put]))
        exact bodyPost_ret (results_agg (cs := hc (hpad s)) rfl rfl (aggHc hok) (blk_cells hput6.blk)) rfl ⟨rfl, bx_put hbr hput6 (by omega)⟩
    · obtain rfl : i = 32 := by omega
      have hfin : hAt s 32 = hpad s := by unfold hpad; rw [Nat.min_eq_left hi]
      rw [hfin] at hblk
      have hok : hOk (hpad s) := by rw [← hfin]; exact hAt_len hi hi32
      clear hfin
      go_wp2_with (first
        | (with_reducible refine wpAt ?_; refine loadH rfl rfl rfl hblk hok ?_; simp only [Act.put, List.setIfInBounds_toArray, List.set_cons_succ, List.set_cons_zero])
        | (with_reducible refine wpAt ?_; refine storeH rfl rfl rfl rfl hok hblkr ?_; intro w6 hput6; simp only [Act.put]))
      exact bodyPost_ret (results_agg (cs := hc (hpad s)) rfl rfl (aggHc hok) (blk_cells hput6.blk)) rfl ⟨rfl, bx_put hbr hput6 (by omega)⟩
end Go.Proofs.Ythbmmilefimpaaa
