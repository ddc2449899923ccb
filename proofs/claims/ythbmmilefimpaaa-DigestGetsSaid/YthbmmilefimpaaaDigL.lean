
/- DigestTells: its walk. -/
import Derived.Test.YthbmmilefimpaaaDigK
namespace Go.Proofs.Ythbmmilefimpaaa
open Go.RowKit Go.Maps
set_option linter.unusedVariables false
abbrev tDr : TypeId := 28
theorem zDr : ZeroT Try.prog tDr (.agg #[.slice none 0 0, .slice none 0 0]) := zeroT_of (by kernel_rfl)
theorem aggDr {a b : Value} : AggT Try.prog tDr [a, b].length := aggT_of Try.underlying28 rfl (by kernel_rfl)
theorem aggDr2 {a b : Value} : AggT Try.prog tDr #[a, b].size := aggT_of Try.underlying28 rfl (by kernel_rfl)
theorem storeR {ops : Array Oper} {rest : List Oper} {o : Oper} {a : Act} {w : World} {Q : Exit → Act → World → Prop} (hgd : o.guard = none) {x y : Operand} (ho : o.op = .store tDr x y) {g : Nat} (hx : a.eval x = .pointer (some ⟨g, 0, none⟩)) {A B : Option Addr} {n m c d : Nat} (hy : a.eval y = .agg #[.slice A n c, .slice B m d])
    (hz : Blk w g tDr (Value.agg #[.slice none 0 0, .slice none 0 0]).cells) (h : ∀ w1, Put w w1 g tDr #[.slice A n c, .slice B m d] → wpList Try.prog ops Q rest (a.put o.dst undef) w1) : wpList Try.prog ops Q (o :: rest) a w :=
  wpList_store_agg hgd _ _ _ ho g 0 hx #[.slice A n c, .slice B m d] hy aggDr2 hz (Nat.le_refl 2) (oneD _ _) (fun w1 hp => h w1 hp)
/-- A whole digest is read, if it is wanted. -/
theorem loadG {ops : Array Oper} {rest : List Oper} {o : Oper} {a : Act} {w : World} {Q : Exit → Act → World → Prop} (hgd : Region.wanted o (yielded ops a.tmps) = true) {x : Operand} (ho : o.op = .load tDg x) {g : Nat} (hx : a.eval x = .pointer (some ⟨g, 0, none⟩)) {u v : Value} (hb : Blk w g tDg #[u, v])
    (h : wpList Try.prog ops Q rest (a.put o.dst (.agg #[u, v])) w) : wpList Try.prog ops Q (o :: rest) a w :=
  wpList_step fun K hK => by
    rw [if_pos hgd]
    unfold Oper.wp execOp
    simp only [ho, hx, Instr.loadAt, Instr.sureAddr, Sem.run_bind, Sem.run_pure, Result.andThen_ok, run_load_agg aggD (blk_cells hb)]
    exact hK _ _ h
/-- The last 32 of a row, in place. -/
theorem lastAt {α : Type} {enc : α → List Value} {z : Nat} {ks : List α} (hz : ∀ l ∈ ks.map enc, l.length = z) {w : World} {B b off : Nat} (hr : Rd w B (some ⟨b, off, none⟩) (ks.map enc).flatten) : Rd w B (some ⟨b, off + (ks.length - 32) * z, none⟩) ((last32 ks).map enc).flatten := by
  have := rd_dropZ hr hz (ks.length - 32)
  rw [← List.map_drop] at this
  exact this
theorem some_of {α : Type} {enc : α → List Value} {z : Nat} (hp : 0 < z) {ks : List α} (hz : ∀ l ∈ ks.map enc, l.length = z) {w : World} {B : Nat} {A : Option Addr} (hr : Rd w B A (ks.map enc).flatten) (h : 0 < ks.length) : ∃ b off, A = some ⟨b, off, none⟩ := by
  rcases hr with h0 | ⟨b, off, h0, _⟩
  · exfalso
    have hl := flatZ_len (ks.map enc) hz
    rw [h0, List.length_map] at hl
    rcases Nat.mul_eq_zero.1 hl.symm with h | h <;> omega
  · exact ⟨b, off, h0⟩
set_option maxHeartbeats 1000000 in
theorem RefMake_any (w : World) {A1 A2 : Option Addr} {c1 c2 : Nat} {keys : List Key} {fr : List (List UInt8)} (hok1 : ∀ k ∈ keys, kOk k) (hok2 : ∀ k ∈ fr, hOk k) (hr1 : Rd w w.heap.size A1 (keys.map kc).flatten) (hr2 : Rd w w.heap.size A2 (fr.map hc).flatten) (hl1 : keys.length ≤ 1000000) (hl2 : fr.length ≤ 1000000)
    (hc1 : keys.length ≤ c1) (hm1 : c1 ≤ 9223372036854775807) (hc2 : fr.length ≤ c2) (hm2 : c2 ≤ 9223372036854775807) :
    Calls Try.prog 11 #[.slice A1 keys.length c1, .slice A2 fr.length c2] w fun e w' => ∃ A c B d, e = .returned (.agg #[.slice A (last32 keys).length c, .slice B (last32 fr).length d]) ∧ Rd w' w'.heap.size A ((last32 keys).map kc).flatten ∧ Rd w' w'.heap.size B ((last32 fr).map hc).flatten ∧ Below w.heap.size w w' := by
  have fin : ∀ (w1 w2 : World) (g : Nat) (A : Option Addr) (c : Nat) (B : Option Addr) (d : Nat), Rd w w.heap.size A ((last32 keys).map kc).flatten → Rd w w.heap.size B ((last32 fr).map hc).flatten → w.heap.size ≤ g → Below w.heap.size w w1 → Put w1 w2 g tDr #[.slice A (last32 keys).length c, .slice B (last32 fr).length d] →
      Rd w2 w2.heap.size A ((last32 keys).map kc).flatten ∧ Rd w2 w2.heap.size B ((last32 fr).map hc).flatten ∧ Below w.heap.size w w2 := fun w1 w2 g A c B d h1 h2 hg hb hp => by
    have hbp := bx_put hb hp hg
    exact ⟨(h1.below hbp).more hbp.size, (h2.below hbp).more hbp.size, hbp⟩
  have FIN := hid fin
  have HR1 := hid hr1
  have HR2 := hid hr2
  have HO1 := hid hok1
  have HO2 := hid hok2
  clear hr1 hr2 hok1 hok2 fin
  by_cases h1 : 32 < keys.length
  · obtain ⟨b1, off1, rfl⟩ := some_of (by decide) (mapLenK HO1.out) HR1.out (by omega)
    have hl1p := lastAt (mapLenK HO1.out) HR1.out
    have hs1 : (last32 keys).length = keys.length - (keys.length - 32) := List.length_drop
    have ht1 : ((keys.length : Int) - 32).toNat = keys.length - 32 := by omega
    have HS1 := hid hs1
    clear hs1
    by_cases h2 : 32 < fr.length
    · obtain ⟨b2, off2, rfl⟩ := some_of (by decide) (mapLenH HO2.out) HR2.out (by omega)
      have hl2p := lastAt (mapLenH HO2.out) HR2.out
      have hs2 : (last32 fr).length = fr.length - (fr.length - 32) := List.length_drop
      have ht2 : ((fr.length : Int) - 32).toNat = fr.length - 32 := by omega
      have HS2 := hid hs2
      clear hs2
      go_enter Try.func11, Try.ntmps11
      go_wp2_with (first
        | (with_reducible refine wpAt ?_; refine wpList_alloc rfl _ rfl zDr ?_; intro g7 w7 hg7 hg7' hz7 hb7; simp only [Act.put, List.setIfInBounds_toArray, List.set_cons_succ, List.set_cons_zero])
        | (with_reducible refine wpAt ?_; refine storeR rfl rfl rfl rfl hz7 ?_; intro w8 hp8; simp only [Act.put]))
      rw [← HS1.out, ← HS2.out] at hp8
      refine bodyPost_ret (results_agg (cs := [.slice (some ⟨b1, off1 + (keys.length - 32) * 33, none⟩) (last32 keys).length (c1 - (keys.length - 32)), .slice (some ⟨b2, off2 + (fr.length - 32) * 32, none⟩) (last32 fr).length (c2 - (fr.length - 32))]) rfl rfl aggDr (blk_cells hp8.blk)) rfl ?_
      exact ⟨(some ⟨b1, off1 + (keys.length - 32) * 33, none⟩), (c1 - (keys.length - 32)), (some ⟨b2, off2 + (fr.length - 32) * 32, none⟩), (c2 - (fr.length - 32)), rfl, FIN.out w7 w8 g7 (some ⟨b1, off1 + (keys.length - 32) * 33, none⟩) (c1 - (keys.length - 32)) (some ⟨b2, off2 + (fr.length - 32) * 32, none⟩) (c2 - (fr.length - 32)) hl1p hl2p hg7 hb7 hp8⟩
    · have hl2p : Rd w w.heap.size A2 ((last32 fr).map hc).flatten := by rw [last32_id (by omega)]; exact HR2.out
      have hs2 : (last32 fr).length = fr.length := by rw [last32_id (by omega)]
      have HS2 := hid hs2
      clear hs2
      go_enter Try.func11, Try.ntmps11
      go_wp2_with (first
        | (with_reducible refine wpAt ?_; refine wpList_alloc rfl _ rfl zDr ?_; intro g7 w7 hg7 hg7' hz7 hb7; simp only [Act.put, List.setIfInBounds_toArray, List.set_cons_succ, List.set_cons_zero])
        | (with_reducible refine wpAt ?_; refine storeR rfl rfl rfl rfl hz7 ?_; intro w8 hp8; simp only [Act.put]))
      rw [← HS1.out, ← HS2.out] at hp8
      refine bodyPost_ret (results_agg (cs := [.slice (some ⟨b1, off1 + (keys.length - 32) * 33, none⟩) (last32 keys).length (c1 - (keys.length - 32)), .slice A2 (last32 fr).length c2]) rfl rfl aggDr (blk_cells hp8.blk)) rfl ?_
      exact ⟨(some ⟨b1, off1 + (keys.length - 32) * 33, none⟩), (c1 - (keys.length - 32)), A2, c2, rfl, FIN.out w7 w8 g7 (some ⟨b1, off1 + (keys.length - 32) * 33, none⟩) (c1 - (keys.length - 32)) A2 c2 hl1p hl2p hg7 hb7 hp8⟩
  · have hl1p : Rd w w.heap.size A1 ((last32 keys).map kc).flatten := by rw [last32_id (by omega)]; exact HR1.out
    have hs1 : (last32 keys).length = keys.length := by rw [last32_id (by omega)]
    have HS1 := hid hs1
    clear hs1
    by_cases h2 : 32 < fr.length
    · obtain ⟨b2, off2, rfl⟩ := some_of (by decide) (mapLenH HO2.out) HR2.out (by omega)
      have hl2p := lastAt (mapLenH HO2.out) HR2.out
      have hs2 : (last32 fr).length = fr.length - (fr.length - 32) := List.length_drop
      have ht2 : ((fr.length : Int) - 32).toNat = fr.length - 32 := by omega
      have HS2 := hid hs2
      clear hs2
      go_enter Try.func11, Try.ntmps11
      go_wp2_with (first
        | (with_reducible refine wpAt ?_; refine wpList_alloc rfl _ rfl zDr ?_; intro g7 w7 hg7 hg7' hz7 hb7; simp only [Act.put, List.setIfInBounds_toArray, List.set_cons_succ, List.set_cons_zero])
        | (with_reducible refine wpAt ?_; refine storeR rfl rfl rfl rfl hz7 ?_; intro w8 hp8; simp only [Act.put]))
      rw [← HS1.out, ← HS2.out] at hp8
      refine bodyPost_ret (results_agg (cs := [.slice A1 (last32 keys).length c1, .slice (some ⟨b2, off2 + (fr.length - 32) * 32, none⟩) (last32 fr).length (c2 - (fr.length - 32))]) rfl rfl aggDr (blk_cells hp8.blk)) rfl ?_
      exact ⟨A1, c1, (some ⟨b2, off2 + (fr.length - 32) * 32, none⟩), (c2 - (fr.length - 32)), rfl, FIN.out w7 w8 g7 A1 c1 (some ⟨b2, off2 + (fr.length - 32) * 32, none⟩) (c2 - (fr.length - 32)) hl1p hl2p hg7 hb7 hp8⟩
    · have hl2p : Rd w w.heap.size A2 ((last32 fr).map hc).flatten := by rw [last32_id (by omega)]; exact HR2.out
      have hs2 : (last32 fr).length = fr.length := by rw [last32_id (by omega)]
      have HS2 := hid hs2
      clear hs2
      go_enter Try.func11, Try.ntmps11
      go_wp2_with (first
        | (with_reducible refine wpAt ?_; refine wpList_alloc rfl _ rfl zDr ?_; intro g7 w7 hg7 hg7' hz7 hb7; simp only [Act.put, List.setIfInBounds_toArray, List.set_cons_succ, List.set_cons_zero])
        | (with_reducible refine wpAt ?_; refine storeR rfl rfl rfl rfl hz7 ?_; intro w8 hp8; simp only [Act.put]))
      rw [← HS1.out, ← HS2.out] at hp8
      refine bodyPost_ret (results_agg (cs := [.slice A1 (last32 keys).length c1, .slice A2 (last32 fr).length c2]) rfl rfl aggDr (blk_cells hp8.blk)) rfl ?_
      exact ⟨A1, c1, A2, c2, rfl, FIN.out w7 w8 g7 A1 c1 A2 c2 hl1p hl2p hg7 hb7 hp8⟩
/-- Where the comparing stands. -/
structure TS (w0 W : World) (g10 g11 g12 : Nat) (vK vH : Value) (AR BR : Option Addr) (nR cR mR dR : Nat) (v0 v1 : Value) (lk : List Key) (lh : List (List UInt8)) : Prop where
  d10 : Blk W g10 tDg #[vK, vH]
  d11 : Blk W g11 tDr #[.slice AR nR cR, .slice BR mR dR]
  d12 : Blk W g12 tDg #[v0, v1]
  k : W.ownsRow 0 54 33 vK lk.length (lk.map kc).flatten
  h : W.ownsRow 0 52 32 vH lh.length (lh.map hc).flatten
  rk : Rd W W.heap.size AR (lk.map kc).flatten
  rh : Rd W W.heap.size BR (lh.map hc).flatten
  be : Below w0.heap.size w0 W
theorem TS.below {w0 W W1 : World} {g10 g11 g12 : Nat} {vK vH : Value} {AR BR : Option Addr} {nR cR mR dR : Nat} {v0 v1 : Value} {lk : List Key} {lh : List (List UInt8)} (s : TS w0 W g10 g11 g12 vK vH AR BR nR cR mR dR v0 v1 lk lh) (hb : Below W.heap.size W W1) : TS w0 W1 g10 g11 g12 vK vH AR BR nR cR mR dR v0 v1 lk lh :=
  ⟨s.d10.below hb s.d10.lt, s.d11.below hb s.d11.lt, s.d12.below hb s.d12.lt, own_keep s.k hb, own_keep s.h hb, (s.rk.below hb).more hb.size, (s.rh.below hb).more hb.size, bx_trans s.be hb⟩
set_option maxRecDepth 10000 in
set_option maxHeartbeats 1000000 in
theorem DigestTells_walk (w : World) (A0 : Option Addr) (c0 : Nat) (l0 : List Key) (hc0 : l0.length ≤ c0) (hm0 : c0 ≤ maxLen) (hx0 : ∀ k ∈ l0, kOk k) (hr0 : Rd w w.heap.size A0 (l0.map kc).flatten)
    (A1 : Option Addr) (c1 : Nat) (l1 : List (List UInt8)) (hc1 : l1.length ≤ c1) (hm1 : c1 ≤ maxLen) (hx1 : ∀ l ∈ l1, l.length = 32) (hr1 : Rd w w.heap.size A1 (l1.flatten.map cb))
    (A2 : Option Addr) (c2 : Nat) (l2 : List Key) (hc2 : l2.length ≤ c2) (hm2 : c2 ≤ maxLen) (hx2 : ∀ k ∈ l2, kOk k) (hr2 : Rd w w.heap.size A2 (l2.map kc).flatten)
    (A3 : Option Addr) (c3 : Nat) (l3 : List (List UInt8)) (hc3 : l3.length ≤ c3) (hm3 : c3 ≤ maxLen) (hx3 : ∀ l ∈ l3, l.length = 32) (hr3 : Rd w w.heap.size A3 (l3.flatten.map cb)) :
    Calls Try.prog 3 #[.slice A0 l0.length c0, .slice A1 l1.length c1, .slice A2 l2.length c2, .slice A3 l3.length c3] w fun e w' => e = .returned (.bool true) ∧ Below w.heap.size w w' := by
  unfold maxLen at hm0 hm1 hm2 hm3
  rw [List.map_flatten] at hr1 hr3
  have HR0 := hid hr0
  have HR1 : Hid (Rd w w.heap.size A1 (l1.map hc).flatten) := hid hr1
  have HR2 := hid hr2
  have HR3 : Hid (Rd w w.heap.size A3 (l3.map hc).flatten) := hid hr3
  have HX0 := hid hx0
  have HX1 : Hid (∀ k ∈ l1, hOk k) := hid hx1
  have HX2 := hid hx2
  have HX3 : Hid (∀ k ∈ l3, hOk k) := hid hx3
  clear hr0 hr1 hr2 hr3 hx0 hx1 hx2 hx3
  go_enter Try.func3, Try.ntmps3
  go_wp2_with fail
  refine (awake_any w).mono ?_
  rintro e w1 ⟨rfl, hb1⟩
  by_cases hs0 : 50 < l0.length
  · go_wp2
    go_ret
    exact ⟨rfl, hb1⟩
  by_cases hs1 : 50 < l1.length
  · go_wp2
    go_ret
    exact ⟨rfl, hb1⟩
  by_cases hs2 : 50 < l2.length
  · go_wp2
    go_ret
    exact ⟨rfl, hb1⟩
  by_cases hs3 : 50 < l3.length
  · go_wp2
    go_ret
    exact ⟨rfl, hb1⟩
  go_wp2_with fail
  refine (Make_any w1 HX0.out HX1.out ((HR0.out.below hb1).more hb1.size) ((HR1.out.below hb1).more hb1.size) (by omega) (by omega) hc0 (by omega) hc1 (by omega)).mono ?_
  rintro e w2 ⟨v, u, rfl, hK2, hH2, hb2⟩
  have hK2 := own_more hK2 (Nat.zero_le _)
  have hH2 := own_more hH2 (Nat.zero_le _)
  obtain ⟨AK, cK, rfl, _, _, _⟩ := own_form hK2
  obtain ⟨AH, cH, rfl, _, _, _⟩ := own_form hH2
  have hb02 := bx_trans hb1 hb2
  have hle0 := last32_len l0
  have hle1 := last32_len l1
  have hok0 := last32_ok HX0.out
  have hok1 := last32_ok HX1.out
  have HLE0 := hid (show (last32 l0).length ≤ 32 by omega)
  have HLE1 := hid (show (last32 l1).length ≤ 32 by omega)
  clear hb1 hb2 hle0 hle1
  go_wp2_with (first
    | (with_reducible refine wpAt ?_; refine wpList_alloc rfl _ rfl zDg ?_; intro g7 w7 hg7 hg7' hz7 hb7; simp only [Act.put, List.setIfInBounds_toArray, List.set_cons_succ, List.set_cons_zero])
    | (with_reducible refine wpAt ?_; refine storeD rfl rfl rfl rfl hz7 ?_; intro w8 hp8; simp only [Act.put]))
  have hd8 := hp8.blk
  have hK8 := own_put (own_keep hK2 hb7) hz7 hp8 (by decide)
  have hH8 := own_put (own_keep hH2 hb7) hz7 hp8 (by decide)
  have hb08 := bx_put (bx_trans hb02 hb7) hp8 (Nat.le_trans hb02.size hg7)
  clear hK2 hH2 hb02 hz7 hp8 hb7
  refine (RefMake_any w8 HX0.out HX1.out ((HR0.out.below hb08).more hb08.size) ((HR1.out.below hb08).more hb08.size) (by omega) (by omega) hc0 (by omega) hc1 (by omega)).mono ?_
  rintro e w9 ⟨AR, cR, BR, dR, rfl, hrk, hrh, hb9⟩
  have hd9 := hd8.below hb9 hd8.lt
  have hK9 := own_keep hK8 hb9
  have hH9 := own_keep hH8 hb9
  have hb09 := bx_trans hb08 hb9
  clear hd8 hK8 hH8 hb08 hb9
  go_wp2_with (first
    | (with_reducible refine wpAt ?_; refine wpList_alloc rfl _ rfl zDr ?_; intro g10 w10 hg10 hg10' hz10 hb10; simp only [Act.put, List.setIfInBounds_toArray, List.set_cons_succ, List.set_cons_zero])
    | (with_reducible refine wpAt ?_; refine wpList_alloc rfl _ rfl zDg ?_; intro g12 w12 hg12 hg12' hz12 hb12; simp only [Act.put, List.setIfInBounds_toArray, List.set_cons_succ, List.set_cons_zero])
    | (with_reducible refine wpAt ?_; refine storeR rfl rfl rfl rfl hz10 ?_; intro w11 hp11; simp only [Act.put]; have hne10 := Nat.ne_of_lt (Nat.lt_of_lt_of_le hd9.lt hg10); have hle10 := Nat.le_trans hb09.size hg10; have hb011 := bx_put (bx_trans hb09 hb10) hp11 hle10; have hb911 : Below w9.heap.size w9 w11 := hb10.trans (hp11.below hg10))
    | (with_reducible refine wpAt ?_; refine storeD rfl rfl rfl rfl hz12 ?_; intro w13 hp13; simp only [Act.put]; have hne12 := Nat.ne_of_lt (Nat.lt_of_lt_of_le (hd9.below hb911 hd9.lt).lt hg12); have hne11 := Nat.ne_of_lt (Nat.lt_of_lt_of_le hp11.blk.lt hg12); have hle12 := Nat.le_trans hb011.size hg12; have hb1113 : Below w11.heap.size w11 w13 := hb12.trans (hp13.below hg12); have hb913 := bx_trans hb911 hb1113; have hS : TS w w13 g7 g10 g12 (.slice AK (last32 l0).length cK) (.slice AH (last32 l1).length cH) AR BR (last32 l0).length cR (last32 l1).length dR (.slice A0 l0.length c0) (.slice A1 l1.length c1) (last32 l0) (last32 l1) := ⟨hd9.below hb913 hd9.lt, hp11.blk.below hb1113 hp11.blk.lt, hp13.blk, own_keep hK9 hb913, own_keep hH9 hb913, (hrk.below hb913).more hb913.size, (hrh.below hb913).more hb913.size, bx_trans hb09 hb913⟩; have cd10 := hS.d10.cell 0; have cd11 := hS.d11.cell 0))
  clear hd9 hK9 hH9 hb09 hrk hrh hz10 hz12 hp11 hp13 hb10 hb12 hb911 hb1113 hb913 hb011 cd10 cd11
  refine (SameK_any w13 hok0 hok0 (own_rd hS.k) hS.rk (by have := HLE0.out; omega) (by have := HLE0.out; omega)).mono ?_
  rintro e w14 ⟨rfl, hb14⟩
  rw [decide_eq_true rfl]
  have hS14 := hS.below hb14
  have cd10 := hS14.d10.cell 1
  have cd11 := hS14.d11.cell 1
  clear hS
  go_wp2_with fail
  clear cd10 cd11
  refine (SameH_any w14 hok1 hok1 (own_rd hS14.h) hS14.rh (by have := HLE1.out; omega) (by have := HLE1.out; omega)).mono ?_
  rintro e w15 ⟨rfl, hb15⟩
  rw [decide_eq_true rfl]
  have hS15 := hS14.below hb15
  have hd12 := hS15.d12
  clear hS14
  go_wp2_with (with_reducible refine wpAt ?_; refine loadG rfl rfl rfl (by assumption) ?_; simp only [Act.put, List.setIfInBounds_toArray, List.set_cons_succ, List.set_cons_zero])
  clear hd12
  refine (Wants_any w15 (l := l0) (other := l2) HX0.out HX2.out ((HR0.out.below hS15.be).more hS15.be.size) ((HR2.out.below hS15.be).more hS15.be.size) (by omega) (by omega)).mono ?_
  rintro e w16 ⟨vw, rfl, hW16, hb16⟩
  obtain ⟨AW, cW, rfl, _, _, _⟩ := own_form hW16
  have hS16 := hS15.below hb16
  clear hS15
  have hn02 := nots_le l0 l2
  have ho02 := nots_ok (other := l2) HX0.out
  have hn20 := nots_le l2 l0
  have ho20 := nots_ok (other := l0) HX2.out
  have hn31 := nots_le l3 l1
  have ho31 := nots_ok (other := l1) HX3.out
  go_wp2_with fail
  refine (NotK_any w16 (l := l0) (other := l2) HX0.out HX2.out ((HR0.out.below hS16.be).more hS16.be.size) ((HR2.out.below hS16.be).more hS16.be.size) (by omega) (by omega)).mono ?_
  rintro e w17 ⟨vn, rfl, hN17, hb17⟩
  obtain ⟨AN, cN, rfl, _, _, _⟩ := own_form hN17
  have hS17 := hS16.below hb17
  have hW17 := own_keep hW16 hb17
  clear hS16 hW16
  go_wp2_with fail
  refine (SameK_any w17 ho02 ho02 (own_rd hW17) (own_rd hN17) (by omega) (by omega)).mono ?_
  rintro e w18 ⟨rfl, hb18⟩
  rw [decide_eq_true rfl]
  have hS18 := hS17.below hb18
  have hd12 := hS18.d12
  clear hS17 hW17 hN17
  go_wp2_with (with_reducible refine wpAt ?_; refine loadG rfl rfl rfl (by assumption) ?_; simp only [Act.put, List.setIfInBounds_toArray, List.set_cons_succ, List.set_cons_zero])
  clear hd12
  refine (Lacks_any w18 (l := l2) (other := l0) HX2.out HX0.out ((HR2.out.below hS18.be).more hS18.be.size) ((HR0.out.below hS18.be).more hS18.be.size) (by omega) (by omega)).mono ?_
  rintro e w19 ⟨vw, rfl, hW19, hb19⟩
  obtain ⟨AW, cW, rfl, _, _, _⟩ := own_form hW19
  have hS19 := hS18.below hb19
  clear hS18
  go_wp2_with fail
  refine (NotK_any w19 (l := l2) (other := l0) HX2.out HX0.out ((HR2.out.below hS19.be).more hS19.be.size) ((HR0.out.below hS19.be).more hS19.be.size) (by omega) (by omega)).mono ?_
  rintro e w20 ⟨vn, rfl, hN20, hb20⟩
  obtain ⟨AN, cN, rfl, _, _, _⟩ := own_form hN20
  have hS20 := hS19.below hb20
  have hW20 := own_keep hW19 hb20
  clear hS19 hW19
  go_wp2_with fail
  refine (SameK_any w20 ho20 ho20 (own_rd hW20) (own_rd hN20) (by omega) (by omega)).mono ?_
  rintro e w21 ⟨rfl, hb21⟩
  rw [decide_eq_true rfl]
  have hS21 := hS20.below hb21
  have hd12 := hS21.d12
  clear hS20 hW20 hN20
  go_wp2_with (with_reducible refine wpAt ?_; refine loadG rfl rfl rfl (by assumption) ?_; simp only [Act.put, List.setIfInBounds_toArray, List.set_cons_succ, List.set_cons_zero])
  clear hd12
  refine (Misses_any w21 (l := l3) (other := l1) HX3.out HX1.out ((HR3.out.below hS21.be).more hS21.be.size) ((HR1.out.below hS21.be).more hS21.be.size) (by omega) (by omega)).mono ?_
  rintro e w22 ⟨vw, rfl, hW22, hb22⟩
  obtain ⟨AW, cW, rfl, _, _, _⟩ := own_form hW22
  have hS22 := hS21.below hb22
  clear hS21
  go_wp2_with fail
  refine (NotH_any w22 (l := l3) (other := l1) HX3.out HX1.out ((HR3.out.below hS22.be).more hS22.be.size) ((HR1.out.below hS22.be).more hS22.be.size) (by omega) (by omega)).mono ?_
  rintro e w23 ⟨vn, rfl, hN23, hb23⟩
  obtain ⟨AN, cN, rfl, _, _, _⟩ := own_form hN23
  have hS23 := hS22.below hb23
  have hW23 := own_keep hW22 hb23
  clear hS22 hW22
  go_wp2_with fail
  refine (SameH_any w23 ho31 ho31 (own_rd hW23) (own_rd hN23) (by omega) (by omega)).mono ?_
  rintro e w24 ⟨rfl, hb24⟩
  rw [decide_eq_true rfl]
  go_wp2
  go_ret
  exact ⟨rfl, bx_trans hS23.be hb24⟩
end Go.Proofs.Ythbmmilefimpaaa
