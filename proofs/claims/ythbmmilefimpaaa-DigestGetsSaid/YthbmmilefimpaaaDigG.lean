
/- A digest's bytes. -/
import Derived.Test.YthbmmilefimpaaaDigF
namespace Go.Proofs.Ythbmmilefimpaaa
open Go.RowKit Go.Maps
set_option linter.unusedVariables false
/-- A key's bytes; a digest's. -/
def keyB (k : Key) : List UInt8 := numL k.1 8 ++ k.2
def keysB (ks : List Key) : List UInt8 := (ks.map keyB).flatten
def putB (ks : List Key) (fr : List (List UInt8)) : List UInt8 := numL ks.length 1 ++ keysB ks ++ numL fr.length 1 ++ fr.flatten
theorem numL_len' (x : Nat) : ∀ n, (numL x n).length = n := fun n => by simp [numL]
theorem keyB_len {k : Key} (h : kOk k) : (keyB k).length = 40 := by simp [keyB, numL_len', h.2]
theorem keysB_snoc (ks : List Key) (k : Key) : keysB (ks ++ [k]) = keysB ks ++ keyB k := by simp [keysB]
theorem keysB_len : ∀ {ks : List Key}, (∀ k ∈ ks, kOk k) → (keysB ks).length = 40 * ks.length
  | [], _ => rfl
  | k :: r, h => by
    show ((keyB k) ++ keysB r).length = _
    rw [List.length_append, keyB_len (h k List.mem_cons_self), keysB_len fun x hx => h x (List.mem_cons_of_mem _ hx), List.length_cons]
    omega
theorem hashesB_len : ∀ {ks : List (List UInt8)}, (∀ k ∈ ks, hOk k) → ks.flatten.length = 32 * ks.length
  | [], _ => rfl
  | k :: r, h => by
    rw [List.flatten_cons, List.length_append, h k List.mem_cons_self, hashesB_len fun x hx => h x (List.mem_cons_of_mem _ hx), List.length_cons]
    omega
theorem numW1 (x : Nat) : numW x 1 = numL x 1 := if_pos (by decide)
theorem numW8 (x : Nat) : numW x 8 = numL x 8 := if_pos (by decide)
/-- A key's second part. -/
theorem blk_root {w : World} {g : Nat} {t : TypeId} {k : Key} (h : Blk w g t (kc k).toArray) : ∀ j v, (hc k.2)[j]? = some v → w.cell? ⟨g, 1 + j, none⟩ = some v := by
  intro j v hv
  rw [h.cell, Nat.add_comm]
  show (List.toArray (Value.int .u64 (k.1 : Int) :: hc k.2))[j + 1]? = some v
  rw [List.getElem?_toArray, List.getElem?_cons_succ]
  exact hv
theorem cell_size {w : World} {g : Nat} {t : TypeId} {k : Key} (h : Blk w g t (kc k).toArray) : w.cell? ⟨g, 0, none⟩ = some (.int .u64 (k.1 : Int)) := by
  rw [h.cell]
  rfl
section
variable (w : World) {A1 A2 : Option Addr} {c1 c2 : Nat}
set_option maxHeartbeats 400000 in
theorem Put_big {n1 n2 : Nat} (h : 32 < n1 ∨ 32 < n2) :
    Calls Try.prog 19 #[.agg #[.slice A1 n1 c1, .slice A2 n2 c2]] w fun e w' => e = .returned (.tuple #[.slice none 0 0, .int .i64 13]) ∧ Below w.heap.size w w' := by
  by_cases h1 : 32 < n1
  · go_enter Try.func19, Try.ntmps19
    go_wp2
    go_ret2
    exact ⟨rfl, bx_alloc (Below.refl _ _) _⟩
  · have h2 : 32 < n2 := by omega
    go_enter Try.func19, Try.ntmps19
    go_wp2
    go_ret2
    exact ⟨rfl, bx_alloc (Below.refl _ _) _⟩
set_option maxRecDepth 10000 in
set_option maxHeartbeats 1000000 in
theorem Put_any {keys : List Key} {fr : List (List UInt8)} (hok1 : ∀ k ∈ keys, kOk k) (hok2 : ∀ k ∈ fr, hOk k) (hr1 : Rd w w.heap.size A1 (keys.map kc).flatten) (hr2 : Rd w w.heap.size A2 (fr.map hc).flatten) (hl1 : keys.length ≤ 32) (hl2 : fr.length ≤ 32) :
    Calls Try.prog 19 #[.agg #[.slice A1 keys.length c1, .slice A2 fr.length c2]] w fun e w' => ∃ v, e = .returned (.tuple #[v, .int .i64 0]) ∧ w'.ownsRow w.heap.size 5 1 v (putB keys fr).length ((putB keys fr).map cb) ∧ Below w.heap.size w w' := by
  have HR1 := hid hr1
  have HR2 := hid hr2
  have HO1 := hid hok1
  have HO2 := hid hok2
  clear hr1 hr2 hok1 hok2
  have hn1 : ¬ (32 : Int) < (keys.length : Int) := by omega
  have hn2 : ¬ (32 : Int) < (fr.length : Int) := by omega
  go_enter Try.func19, Try.ntmps19
  go_wp2_with fail
  clear hn1 hn2
  have hg := Blk.new w 26 #[.slice A1 keys.length c1, .slice A2 fr.length c2]
  have hb1 : Below w.heap.size w (w.alloc (.cells #[.slice A1 keys.length c1, .slice A2 fr.length c2] 26)) := bx_alloc (Below.refl _ _) _
  obtain ⟨gd, hgd⟩ : ∃ gd, gd = w.heap.size := ⟨_, rfl⟩
  rw [← hgd] at hg
  rw [← hgd]
  clear hgd
  generalize w.alloc (.cells #[.slice A1 keys.length c1, .slice A2 fr.length c2] 26) = w1 at *
  refine (NewWriter_any w1).mono ?_
  rintro e w2 ⟨g, rfl, hW2, hb2⟩
  have hg2 := hg.below hb2 hg.lt
  have cd0 := hg2.cell 0
  have cd1 := hg2.cell 1
  go_wp2_with fail
  refine (WNum_any w2 hW2 hb2.size keys.length 1 (by decide)).mono ?_
  rintro e w3 ⟨rfl, A3, c3, hG3⟩
  rw [List.nil_append, numW1] at hG3
  have hb3 := hb2.trans hG3.below
  have hg3 := hg.below hb3 hg.lt
  clear cd0 cd1 hg2
  have cd0 := hg3.cell 0
  have cd1 := hg3.cell 1
  have hW3 := hG3.isW
  go_wp2
  clear cd0 cd1
  go_loopw [29] (fun j wr => ∃ (i : Nat) (A : Option Addr) (c : Nat), i ≤ keys.length ∧ j = .int .i64 i ∧ IsW wr w1.heap.size g (numL keys.length 1 ++ keysB (keys.take i)) A c ∧ Below w1.heap.size w1 wr) (fun j _ => keys.length - (intOf j).toNat)
  case atStart => exact ⟨0, A3, c3, by omega, rfl, by simpa [keysB] using hW3, hb3⟩
  case round =>
    obtain ⟨i, A, c, hi, rfl, hW, hbr⟩ := hrel
    clear hW3 hb3 hG3 hg3
    rename World => wo
    by_cases hlt : i < keys.length
    · obtain ⟨b1, off1, rfl, hbb1, hd1⟩ := rd_item (i := i) (HR1.out.below (bx_trans hb1 hbr)) (mapLenK HO1.out) (by decide) (by rw [List.length_map]; exact hlt)
      rw [List.getElem_map] at hd1
      have hx := HO1.out _ (List.getElem_mem hlt)
      have htk : keys.take (i + 1) = keys.take i ++ [keys[i]] := List.take_succ_eq_append_getElem hlt
      have hkl : (numL keys.length 1 ++ keysB (keys.take i)).length ≤ 2000 := by rw [List.length_append, numL_len', keysB_len (fun k hk => HO1.out k (List.mem_of_mem_take hk)), List.length_take]; omega
      have HKL := hid hkl
      have hpp : numL keys.length 1 ++ keysB (keys.take (i + 1)) = numL keys.length 1 ++ keysB (keys.take i) ++ numL keys[i].1 8 ++ keys[i].2 := by rw [htk, keysB_snoc, keyB]; simp only [List.append_assoc]
      have HPP := hid hpp
      clear htk hkl hpp
      generalize keys[i] = x at *
      generalize hpl : numL keys.length 1 ++ keysB (keys.take i) = pl at *
      have HPL := hid hpl
      clear hpl
      go_wp2_with (first
        | (refine wpList_load_agg rfl _ _ rfl _ _ rfl (kc x) (aggKc hx) hd1 ?_)
        | (refine wpList_alloc rfl _ rfl zrDK ?_; intro g5 w5 hg5 hg5' hblk5 hb5)
        | (refine wpList_store_agg rfl _ _ _ rfl _ _ rfl (kc x).toArray rfl (aggSK hx) hblk5 (szDK hx) (oneAK x) ?_; intro w6 hp6; have hblk6 := putK hx hp6; have hb56 : Below wo.heap.size wo w6 := hb5.trans (hp6.below hg5); have cx0 := cell_size hblk6))
      have hW6 := hW.below hb56
      have hB6 : w1.heap.size ≤ w6.heap.size := Nat.le_trans hbr.size hb56.size
      have hng : g5 ≠ g := fun e => Nat.lt_irrefl _ (Nat.lt_of_lt_of_le (e ▸ hW.blk.lt) hg5)
      have hno : (Value.slice A pl.length c).ownBlock ≠ some g5 := fun e => Nat.lt_irrefl _ (Nat.lt_of_lt_of_le (hW.own.lt _ e).2 hg5)
      refine (WNum_any w6 hW6 hB6 x.1 8 (by have := HKL.out; omega)).mono ?_
      rintro e w7 ⟨rfl, A7, c7, hG7⟩
      rw [numW8] at hG7
      have hblk7 : Blk w7 g5 54 (kc x).toArray := (hG7.keep g5 hblk6.lt hng hno).1.trans hblk6
      have hcr := blk_root hblk7
      have hx2 : hOk x.2 := hx.2
      clear cx0
      go_wp2_with (refine wpList_load_agg rfl _ _ rfl _ _ rfl (hc x.2) (aggHc hx2) hcr ?_)
      have hb7 := (hbr.trans (hb56.mono hbr.size)).trans hG7.below
      refine (WHash_any w7 hG7.isW hb7.size hx2 (by rw [List.length_append, numL_len']; have := HKL.out; omega)).mono ?_
      rintro e w8 ⟨rfl, A8, c8, hG8⟩
      have hW8 := hG8.isW
      rw [← HPP.out] at hW8
      have hb8 := hb7.trans hG8.below
      go_wp2
      go_roundw
      case rel => exact ⟨i + 1, A8, c8, by omega, by go_num, hW8, hb8⟩
      case measure => simp [intOf]; omega
    · obtain rfl : i = keys.length := by omega
      rw [List.take_length] at hW
      have hgo := hg.below hbr hg.lt
      have cd0 := hgo.cell 0
      have cd1 := hgo.cell 1
      have hkl : (numL keys.length 1 ++ keysB keys).length ≤ 2000 := by rw [List.length_append, numL_len', keysB_len HO1.out]; omega
      have HKL := hid hkl
      obtain ⟨pl, hpl⟩ : ∃ pl, pl = numL keys.length 1 ++ keysB keys := ⟨_, rfl⟩
      rw [← hpl] at HKL hW hkl
      have HPL := hid hpl
      clear hkl hpl hlt hi
      go_wp2_with fail
      refine (WNum_any wo hW hbr.size fr.length 1 (by have := HKL.out; omega)).mono ?_
      rintro e w3 ⟨rfl, A3, c3, hG3⟩
      rw [numW1] at hG3
      have hb3 := hbr.trans hG3.below
      have hg3 := hg.below hb3 hg.lt
      clear cd0 cd1 hgo
      have cd0 := hg3.cell 0
      have cd1 := hg3.cell 1
      have hW3 := hG3.isW
      obtain ⟨pl2, hpl2⟩ : ∃ pl2, pl2 = pl ++ numL fr.length 1 := ⟨_, rfl⟩
      have hkl2 : pl2.length ≤ 2001 := by rw [hpl2, List.length_append, numL_len']; have := HKL.out; omega
      rw [← hpl2] at hW3
      have HPL2 := hid hpl2
      have HKL2 := hid hkl2
      clear hpl2 hkl2
      go_wp2
      clear cd0 cd1
      go_loopw [51] (fun j wr => ∃ (i : Nat) (A : Option Addr) (c : Nat), i ≤ fr.length ∧ j = .int .i64 i ∧ IsW wr w1.heap.size g (pl2 ++ (fr.take i).flatten) A c ∧ Below w1.heap.size w1 wr) (fun j _ => fr.length - (intOf j).toNat)
      case atStart => exact ⟨0, A3, c3, by omega, rfl, by simpa using hW3, hb3⟩
      case round =>
        obtain ⟨i, A, c, hi, rfl, hW, hbr⟩ := hrel
        clear hW3 hb3 hG3 hg3
        rename World => wp
        by_cases hlt : i < fr.length
        · obtain ⟨b1, off1, rfl, hbb1, hd1⟩ := rd_item (i := i) (HR2.out.below (bx_trans hb1 hbr)) (mapLenH HO2.out) (by decide) (by rw [List.length_map]; exact hlt)
          rw [List.getElem_map] at hd1
          have hx := HO2.out _ (List.getElem_mem hlt)
          have htk : fr.take (i + 1) = fr.take i ++ [fr[i]] := List.take_succ_eq_append_getElem hlt
          have hkl : (pl2 ++ (fr.take i).flatten).length ≤ 4000 := by rw [List.length_append, hashesB_len (fun k hk => HO2.out k (List.mem_of_mem_take hk)), List.length_take]; have := HKL2.out; omega
          have HKL3 := hid hkl
          have hpp : pl2 ++ (fr.take (i + 1)).flatten = pl2 ++ (fr.take i).flatten ++ fr[i] := by rw [htk, List.flatten_append]; simp
          have HPP := hid hpp
          clear htk hkl hpp
          generalize fr[i] = x at *
          generalize hpl3 : pl2 ++ (fr.take i).flatten = pl3 at *
          have HPL3 := hid hpl3
          clear hpl3
          go_wp2_with (first
            | (refine wpList_load_agg rfl _ _ rfl _ _ rfl (hc x) (aggHc hx) (blk_cells hblk6) ?_)
            | (refine wpList_load_agg rfl _ _ rfl _ _ rfl (hc x) (aggHc hx) hd1 ?_)
            | (refine wpList_alloc rfl _ rfl zrDH ?_; intro g5 w5 hg5 hg5' hblk5 hb5)
            | (refine wpList_store_agg rfl _ _ _ rfl _ _ rfl (hc x).toArray rfl (aggSH hx) hblk5 (szDH hx) (oneAH x) ?_; intro w6 hp6; have hblk6 := putH hx hp6; have hb56 : Below wp.heap.size wp w6 := hb5.trans (hp6.below hg5)))
          have hW6 := hW.below hb56
          have hB6 : w1.heap.size ≤ w6.heap.size := Nat.le_trans hbr.size hb56.size
          refine (WHash_any w6 hW6 hB6 hx (by have := HKL3.out; omega)).mono ?_
          rintro e w8 ⟨rfl, A8, c8, hG8⟩
          have hW8 := hG8.isW
          rw [← HPP.out] at hW8
          have hb8 := (hbr.trans (hb56.mono hbr.size)).trans hG8.below
          go_wp2
          go_roundw
          case rel => exact ⟨i + 1, A8, c8, by omega, by go_num, hW8, hb8⟩
          case measure => simp [intOf]; omega
        · obtain rfl : i = fr.length := by omega
          rw [List.take_length] at hW
          have hkl : (pl2 ++ fr.flatten).length ≤ 4000 := by rw [List.length_append, hashesB_len HO2.out]; have := HKL2.out; omega
          have hfin : pl2 ++ fr.flatten = putB keys fr := by rw [HPL2.out, HPL.out]; rfl
          rw [hfin] at hW hkl
          have HKL3 := hid hkl
          clear hfin hkl
          go_wp2_with fail
          refine (Out_any wp hW (by have := HKL3.out; omega)).mono ?_
          rintro e w9 ⟨v, rfl, hown, hb9⟩
          obtain ⟨A9, c9, rfl, _, _, _⟩ := own_form hown
          go_wp2
          go_ret2
          have hs1 := hb1.size
          have hs2 := hbr.size
          exact ⟨.slice A9 (putB keys fr).length c9, rfl, own_more hown (by omega), bx_trans (bx_trans hb1 hbr) hb9⟩
end
end Go.Proofs.Ythbmmilefimpaaa
