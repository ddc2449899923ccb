
/- The disk's Read. -/
import Derived.Test.YtnbjoebdbbhbkaaDisk
namespace Go.Proofs.Ytnbjoebdbbhbkaa
open Go.RowKit
set_option linter.unusedVariables false

/-- The slice's block is none of a disk's. -/
def Out (w : World) (A : Option Addr) : Prop := ∀ a, A = some a → ∃ cs t fr, w.heap[a.block]? = some (.cells cs t fr) ∧ t ≠ tDisk ∧ t ≠ tLoose
theorem Rd.dfr {w w' : World} {B B' : Nat} {A : Option Addr} {xs : List Value} (h : Rd w B' A xs) (ho : Out w A) (hd : DFr B w w') : Rd w' B' A xs := by
  rcases h with h | ⟨b, off, rfl, h2, h3⟩
  · exact .inl h
  · refine .inr ⟨b, off, rfl, h2, fun i v hv => ?_⟩
    obtain ⟨cs, t, fr, hb, ht1, ht2⟩ := ho _ rfl
    have := hd.keep b cs t fr hb ht1 ht2
    rw [← h3 i v hv]
    unfold World.cell?
    simp only [this]
    rw [show w.heap[b]? = _ from hb]
theorem Out.dfr {w w' : World} {B : Nat} {A : Option Addr} (ho : Out w A) (hd : DFr B w w') : Out w' A := by
  intro a ha
  obtain ⟨cs, t, fr, hb, ht1, ht2⟩ := ho a ha
  exact ⟨cs, t, fr, hd.keep _ _ _ _ hb ht1 ht2, ht1, ht2⟩
theorem Out.below {w w' : World} {A : Option Addr} (ho : Out w A) (hb : Below w.heap.size w w') : Out w' A := by
  intro a ha
  obtain ⟨cs, t, fr, hk, ht1, ht2⟩ := ho a ha
  exact ⟨cs, t, fr, (hb.block _ (Array.getElem?_eq_some_iff.1 hk).1).trans hk, ht1, ht2⟩
theorem Out.nil (w : World) : Out w none := fun a h => by cases h
/-- The cells read as these, and still do behind whatever is done to disks above B. -/
def Kp (B : Nat) (w : World) (B' : Nat) (A : Option Addr) (xs : List Value) : Prop := ∀ w', DFr B w w' → Rd w' B' A xs
theorem Kp.of_out {B B' : Nat} {w : World} {A : Option Addr} {xs : List Value} (h : Rd w B' A xs) (ho : Out w A) : Kp B w B' A xs := fun _ hd => h.dfr ho hd
theorem Kp.of_below {B B' : Nat} {w : World} {A : Option Addr} {xs : List Value} (h : Rd w B' A xs) (hB : B' ≤ B) : Kp B w B' A xs := fun _ hd => h.keep fun _ hp => hd.below.cell (by omega)
/-- The value is a slice of bytes that reads as these, in no block of a disk's. -/
def RdO (w : World) (v : Value) (l : List UInt8) : Prop := ∃ A c, v = .slice A l.length c ∧ l.length ≤ c ∧ Rd w w.heap.size A (l.map cb) ∧ Out w A
theorem RdO.dfr {w w' : World} {B : Nat} {v : Value} {l : List UInt8} (h : RdO w v l) (hd : DFr B w w') : RdO w' v l := by
  obtain ⟨A, c, h1, h2, h3, h4⟩ := h
  exact ⟨A, c, h1, h2, (h3.dfr h4 hd).more hd.below.size, h4.dfr hd⟩
theorem RdO.below {w w' : World} {v : Value} {l : List UInt8} (h : RdO w v l) (hb : Below w.heap.size w w') : RdO w' v l := by
  obtain ⟨A, c, h1, h2, h3, h4⟩ := h
  exact ⟨A, c, h1, h2, (h3.below hb).more hb.size, h4.below hb⟩
theorem rdO_nil (w : World) : RdO w (.slice none 0 0) [] := ⟨none, 0, rfl, Nat.le_refl _, .inl rfl, Out.nil w⟩
theorem out_row {w : World} {g : Nat} {cs : Array Value} {t : TypeId} {fr : Nat × Nat} (h : w.heap[g]? = some (.cells cs t fr)) (h1 : t ≠ tDisk) (h2 : t ≠ tLoose) (off : Nat) : Out w (some ⟨g, off, none⟩) := by
  intro a ha
  injection ha with ha
  subst ha
  exact ⟨cs, t, fr, h, h1, h2⟩
theorem own_rdO {w : World} {base : Nat} {v : Value} {l : List UInt8} (h : w.ownsRow base 5 1 v l.length (l.map cb)) : RdO w v l := by
  obtain ⟨A, c, h1, h2, h3⟩ := own_bytes h
  refine ⟨A, c, h1, h2, h3, ?_⟩
  rcases h.2 with ⟨rfl, _⟩ | ⟨g, cap, cur, rfl, _, hh, _⟩
  · injection h1 with h1
    subst h1
    exact Out.nil w
  · injection h1 with h1
    subst h1
    exact out_row hh (by decide) (by decide) 0
def zeros : List UInt8 := List.replicate 256 0
theorem zeros_length : zeros.length = 256 := List.length_replicate
def goodAt (D : DS) (i : Int) : List UInt8 := (D.good i).getD zeros
def readL (i : Int) (ls : List (Int × List UInt8)) (b0 : List UInt8) : List UInt8 := ls.foldl (fun b x => if x.1 = i then x.2 else b) b0
def readAt (D : DS) (i : Int) : List UInt8 := readL i D.loose (goodAt D i)
theorem zeroBlock : ZeroT Try.prog 61 (bv zeros) := zeroT_of (by kernel_rfl)
def zLoose : Value := .agg (.int .i64 0 :: zeros.map cb).toArray
theorem zeroLoose : ZeroT Try.prog 63 zLoose := zeroT_of (by kernel_rfl)
theorem aggBlock : AggT Try.prog 61 256 := aggT_of Try.underlying61 rfl (by kernel_rfl)
theorem aggLoose : AggT Try.prog 63 257 := aggT_of Try.underlying63 rfl (by kernel_rfl)
theorem elU8 : ElT Try.prog 22 5 1 1 #[.int .u8 0] := elT_of (z := .int .u8 0) Try.underlying22 (by kernel_rfl) rfl (by decide)
theorem goodAt_length {D : DS} (h : D.Ok) (i : Int) : (goodAt D i).length = 256 := by
  unfold goodAt
  cases hg : D.good i with
  | none => exact zeros_length
  | some l => exact h.g256 i l hg
theorem bv_get {D : DS} (i : Int) : ((D.good i).map bv).getD (bv zeros) = bv (goodAt D i) := by
  unfold goodAt
  cases D.good i <;> rfl
theorem readL_length {ls : List (Int × List UInt8)} (h : ∀ x ∈ ls, x.2.length = 256) (i : Int) {b0 : List UInt8} (h0 : b0.length = 256) : (readL i ls b0).length = 256 := by
  induction ls generalizing b0 with
  | nil => exact h0
  | cons x ls ih =>
    refine ih (fun y hy => h y (by simp [hy])) ?_
    show (if x.1 = i then x.2 else b0).length = 256
    split
    · exact h x (by simp)
    · exact h0
theorem readL_snoc (i : Int) (ls : List (Int × List UInt8)) (x : Int × List UInt8) (b0 : List UInt8) : readL i (ls ++ [x]) b0 = if x.1 = i then x.2 else readL i ls b0 := by simp [readL]
def rec1 (x : Int × List UInt8) : List Value := .int .i64 x.1 :: x.2.map cb
theorem lcells_get : ∀ (ls : List (Int × List UInt8)), (∀ x ∈ ls, x.2.length = 256) → ∀ (k : Nat) (hk : k < ls.length) (j : Nat) (v : Value), (rec1 ls[k])[j]? = some v → (lcells ls)[k * 257 + j]? = some v
  | x :: ls, h, 0, _, j, v, hv => by
    simp only [lcells, List.flatMap_cons, Nat.zero_mul, Nat.zero_add]
    rw [List.getElem?_append_left]
    · exact hv
    · have := (List.getElem?_eq_some_iff.1 hv).1
      simpa [rec1] using this
  | x :: ls, h, k + 1, hk, j, v, hv => by
    have ih := lcells_get ls (fun y hy => h y (by simp [hy])) k (by simpa using hk) j v hv
    have hx := h x (by simp)
    simp only [lcells, List.flatMap_cons]
    rw [List.getElem?_append_right (by simp; omega)]
    have : (k + 1) * 257 + j - (Value.int IntKind.i64 x.1 :: x.2.map cb).length = k * 257 + j := by simp; omega
    rw [this]
    exact ih
theorem one_bv (l : List UInt8) : ∀ v ∈ (l.map cb).toArray.toList, v.oneCell' = true := by simpa using one_cb l
theorem one_rec1 (x : Int × List UInt8) : ∀ v ∈ (rec1 x).toArray.toList, v.oneCell' = true := by
  intro v hv
  simp only [rec1, List.mem_cons] at hv
  rcases hv with rfl | hv
  · rfl
  · exact one_cb _ v hv
theorem blkSize {l : List UInt8} (h : l.length = 256) : (l.map cb).toArray.size = 256 := by simpa using h
theorem aggB {l : List UInt8} (h : l.length = 256) : AggT Try.prog 61 (l.map cb).toArray.size := by rw [blkSize h]; exact aggBlock
theorem aggBL {l : List UInt8} (h : l.length = 256) : AggT Try.prog 61 (l.map cb).length := by rw [List.length_map, h]; exact aggBlock
theorem recSize {x : Int × List UInt8} (h : x.2.length = 256) : (rec1 x).length = 257 := by simp [rec1, h]
theorem aggR {x : Int × List UInt8} (h : x.2.length = 256) : AggT Try.prog 63 (rec1 x).toArray.size := by rw [List.size_toArray, recSize h]; exact aggLoose
theorem aggRL {x : Int × List UInt8} (h : x.2.length = 256) : AggT Try.prog 63 (rec1 x).length := by rw [recSize h]; exact aggLoose
theorem spl_b {a b : List UInt8} (ha : a.length = 256) (hb : b.length = 256) : spl (a.map cb).toArray 0 (b.map cb) = (b.map cb).toArray := spl_whole (vs := (b.map cb).toArray) (by simp [ha, hb])
theorem zLoose_eq' : zLoose.cells = (rec1 (0, zeros)).toArray := rfl
theorem blk_rec {w w1 : World} {g : Nat} {x : Int × List UInt8} (hx : x.2.length = 256) (hp : Put w w1 g 63 (spl zLoose.cells 0 (rec1 x))) : Blk w1 g 63 (rec1 x).toArray := by
  have := hp.blk
  rwa [show spl zLoose.cells 0 (rec1 x) = (rec1 x).toArray from spl_whole (vs := (rec1 x).toArray) (by rw [zLoose_eq', List.size_toArray, recSize zeros_length, List.size_toArray, recSize hx])] at this
theorem bvz_eq : (bv zeros).cells = (zeros.map cb).toArray := rfl
theorem rec_body {w : World} {g : Nat} {x : Int × List UInt8} (h : Blk w g 63 (rec1 x).toArray) : ∀ j v, (x.2.map cb)[j]? = some v → w.cell? ⟨g, 1 + j, none⟩ = some v := by
  intro j v hv
  rw [h.cell, List.getElem?_toArray, Nat.add_comm]
  exact hv
set_option maxRecDepth 100000 in
set_option maxHeartbeats 1000000 in
theorem Read_ok (w : World) {B g : Nat} {D : DS} (h : IsDisk w B g D) (hB : B ≤ w.heap.size) (i : Int) (hd : D.dead = false) (hi : thereB D i = true) :
    Calls Try.prog 14 #[.pointer (some ⟨g, 0, none⟩), .int .i64 i] w fun e w' => ∃ v, e = .returned (.tuple #[v, .int .i64 0]) ∧ RdO w' v (readAt D i) ∧ Below w.heap.size w w' := by
  have hh := h
  obtain ⟨m, A, c, h⟩ := h
  have hmay : mayOf D = 0 := by unfold mayOf; rw [hd]; rfl
  have c1 := h.c1
  have c2 := h.c2
  go_enter Try.func14, Try.ntmps14
  go_wp2_with fail
  refine (dmay_any w hh).mono ?_
  rintro e w1 ⟨rfl, rfl⟩
  rw [hmay]
  go_wp2_with fail
  refine (there_any w hh i).mono ?_
  rintro e w1 ⟨rfl, rfl⟩
  rw [hi]
  have hgl := goodAt_length h.ok i
  have hgv := bv_get (D := D) i
  have hlv : ∀ x ∈ D.loose, x.2.length = 256 := h.ok.l256
  have hroom := h.ok.room
  have HGV := hid hgv
  have HLV := hid hlv
  clear hgv hlv
  have hsz : 0 + ((goodAt D i).map cb).toArray.size ≤ ((zeros.map cb).toArray).size := by rw [blkSize hgl, blkSize zeros_length]; omega
  go_wp2_with (first
    | (refine wpList_lookI rfl _ _ rfl i rfl rfl Try.underlying56 Try.underlying3 zeroBlock h.map (.agg ((goodAt D i).map cb).toArray) HGV.out ?_)
    | (refine wpList_alloc rfl _ rfl zeroBlock ?_; intro g7 w1 hg7 hg7' hblk7 hb7; have c2' := (h.below hb7).c2)
    | (refine wpList_store_agg rfl _ _ _ rfl _ _ rfl _ rfl (aggB hgl) hblk7 hsz (one_bv _) ?_; intro w2 hput; have c2'' := (h.below (bx_put hb7 hput hg7)).c2))
  have hblkb : Blk w2 g7 61 ((goodAt D i).map cb).toArray := by
    have := hput.blk
    rwa [bvz_eq, spl_b zeros_length hgl] at this
  have hb2 := bx_put hb7 hput hg7
  clear c2 c2' c2'' c1 hput hblk7 hb7 hsz hh
  go_loopw [30] (fun j wr => ∃ k : Nat, k ≤ D.loose.length ∧ j = .int .i64 k ∧ Blk wr g7 61 ((readL i (D.loose.take k) (goodAt D i)).map cb).toArray ∧ Below w.heap.size w wr) (fun j _ => D.loose.length - (intOf j).toNat)
  case atStart => exact ⟨0, by omega, rfl, hblkb, hb2⟩
  case round =>
    obtain ⟨k, hk, rfl, hblk, hbr⟩ := hrel
    have hrl := readL_length (ls := D.loose.take k) (fun x hx => HLV.out x (List.mem_of_mem_take hx)) i hgl
    by_cases hlt : k < D.loose.length
    · have hx := HLV.out _ (List.getElem_mem hlt)
      have hsn : readL i (D.loose.take (k + 1)) (goodAt D i) = if D.loose[k].1 = i then D.loose[k].2 else readL i (D.loose.take k) (goodAt D i) := by rw [List.take_succ_eq_append_getElem hlt, readL_snoc]
      have hget := lcells_get D.loose HLV.out k hlt
      obtain ⟨b, off, rfl, hbb, hcells⟩ := (own_rd (h.below hbr).own).at_ (k := k * 257) (by rw [lcells_length _ HLV.out]; omega)
      have hcs : ∀ j v, (rec1 D.loose[k])[j]? = some v → wr.cell? ⟨b, off + k * 257 + j, none⟩ = some v := fun j v hv => by
        rw [Nat.add_assoc]
        exact hcells _ v (hget j v hv)
      have HSN := hid hsn
      have HB := hid h
      clear hget hcells hsn h
      generalize D.loose[k] = x at *
      generalize readL i (D.loose.take k) (goodAt D i) = y at *
      have hbel : ∀ w' : World, Below wr.heap.size wr w' → ∀ j v, (rec1 x)[j]? = some v → w'.cell? ⟨b, off + k * 257 + j, none⟩ = some v := fun w' hb j v hv => (hb.cell (p := ⟨b, off + k * 257 + j, none⟩) hbb).trans (hcs j v hv)
      have HCS := hid hcs
      have HBEL := hid hbel
      clear hcs hbel
      have hszr : 0 + (rec1 x).toArray.size ≤ zLoose.cells.size := by rw [zLoose_eq', List.size_toArray, recSize hx, List.size_toArray, recSize zeros_length]; omega
      have hszb : 0 + (x.2.map cb).toArray.size ≤ (y.map cb).toArray.size := by rw [blkSize hx, blkSize hrl]; omega
      by_cases hxi : x.1 = i
      · have e1 : (x.1 == i) = true := by simpa using hxi
        rw [if_pos hxi] at HSN
        clear hxi
        go_wp2_with (first
        | (refine wpList_load_agg rfl _ _ rfl _ _ rfl (rec1 x) (aggRL hx) HCS.out ?_)
        | (refine wpList_alloc rfl _ rfl zeroLoose ?_; intro g9 w3 hg9 hg9' hblk9 hb9)
        | (refine wpList_store_agg rfl _ _ _ rfl _ _ rfl _ rfl (aggR hx) hblk9 hszr (one_rec1 _) ?_; intro w4 hput4; have hblkr := blk_rec hx hput4; have hc9 : w4.cell? ⟨g9, 0, none⟩ = some (.int .i64 x.1) := hblkr.cell 0; have hblk7 := hput4.other (hblk.below hb9 hblk.lt) (show g7 ≠ g9 by have := hblk.lt; omega); have hcr := hid (rec_body hblkr))
        | (refine wpList_load_agg rfl _ _ rfl _ _ rfl (x.2.map cb) (aggBL hx) hcr.out ?_)
        | (refine wpList_store_agg rfl _ _ _ rfl _ _ rfl _ rfl (aggB hx) hblk7 hszb (one_bv _) ?_; intro w5 hput5))
        go_roundw
        case rel =>
          refine ⟨k + 1, by omega, by go_num, ?_, bx_put (bx_put (bx_trans hbr hb9) hput4 (by have := hbr.size; omega)) hput5 (by omega)⟩
          rw [HSN.out]
          have := hput5.blk
          rwa [spl_b hrl hx] at this
        case measure => simp [intOf]; omega
      · have e1 : (x.1 == i) = false := by simpa using hxi
        rw [if_neg hxi] at HSN
        clear hxi
        go_wp2_with (first
        | (refine wpList_load_agg rfl _ _ rfl _ _ rfl (rec1 x) (aggRL hx) HCS.out ?_)
        | (refine wpList_alloc rfl _ rfl zeroLoose ?_; intro g9 w3 hg9 hg9' hblk9 hb9)
        | (refine wpList_store_agg rfl _ _ _ rfl _ _ rfl _ rfl (aggR hx) hblk9 hszr (one_rec1 _) ?_; intro w4 hput4; have hblkr := blk_rec hx hput4; have hc9 : w4.cell? ⟨g9, 0, none⟩ = some (.int .i64 x.1) := hblkr.cell 0; have hblk7 := hput4.other (hblk.below hb9 hblk.lt) (show g7 ≠ g9 by have := hblk.lt; omega); have hcr := hid (rec_body hblkr)))
        go_roundw
        case rel => exact ⟨k + 1, by omega, by go_num, by rw [HSN.out]; exact hblk7, bx_put (bx_trans hbr hb9) hput4 (by have := hbr.size; omega)⟩
        case measure => simp [intOf]; omega
    · obtain rfl : k = D.loose.length := by omega
      rw [List.take_length] at *
      have hown := own_empty wr 5 1
      have hra : Rd (wr.alloc (.cells #[] 5)) wr.heap.size (some ⟨g7, 0, none⟩) ((readL i D.loose (goodAt D i)).map cb) := (rd_of_row hblk rfl).alloc (Nat.le_refl _) _
      have hll : ((readL i D.loose (goodAt D i)).map cb).length = 256 * 1 := by simp [hrl]
      have h63 : 0 + 256 ≤ maxLen := by decide
      have hby : (0 + 256) * 1 ≤ 140737488355328 := by decide
      have hwz : wr.heap.size ≤ (wr.alloc (.cells #[] 5)).heap.size := by simp
      go_wp2_with (at_builtin; refine wpList_app rfl _ _ _ rfl (.slice (some ⟨wr.heap.size, 0, none⟩) 0 0) rfl _ 256 256 rfl elU8 hown hra hll (one_cb _) h63 hby hwz ?_; intro v' w5 hown5 hgr5 hv5)
      have hbf : Below w.heap.size w w5 := own_below (bx_alloc hbr _) (own_more hown hbr.size) hgr5
      have hv5r : RdO w5 v' (readL i D.loose (goodAt D i)) := own_rdO (base := wr.heap.size) (by rw [hrl]; simpa using hown5)
      clear hown5 hgr5 hv5 hown hra hll
      go_ret2
      exact ⟨v', rfl, hv5r, hbf⟩
def readE (D : DS) (i : Int) : Int := if D.dead then 30 else if thereB D i then 0 else 15
def readV (D : DS) (i : Int) : List UInt8 := if readE D i = 0 then readAt D i else []
set_option maxHeartbeats 400000 in
theorem Read_any (w : World) {B g : Nat} {D : DS} (h : IsDisk w B g D) (hB : B ≤ w.heap.size) (i : Int) :
    Calls Try.prog 14 #[.pointer (some ⟨g, 0, none⟩), .int .i64 i] w fun e w' => ∃ v, e = .returned (.tuple #[v, .int .i64 (readE D i)]) ∧ RdO w' v (readV D i) ∧ Below w.heap.size w w' := by
  unfold readV readE
  by_cases hd : D.dead = true
  · have hmay : mayOf D = 30 := by unfold mayOf; rw [hd]; rfl
    rw [if_pos hd]
    go_enter Try.func14, Try.ntmps14
    go_wp2_with fail
    refine (dmay_any w h).mono ?_
    rintro e w1 ⟨rfl, rfl⟩
    rw [hmay]
    go_wp2
    go_ret2
    exact ⟨_, rfl, rdO_nil _, Below.refl _ _⟩
  · rw [if_neg hd]
    have hd' : D.dead = false := by simpa using hd
    by_cases hi : thereB D i = true
    · rw [if_pos hi]
      exact Read_ok w h hB i hd' hi
    · rw [if_neg hi]
      have hi' : thereB D i = false := by simpa using hi
      have hmay : mayOf D = 0 := by unfold mayOf; rw [hd']; rfl
      clear hd hi
      go_enter Try.func14, Try.ntmps14
      go_wp2_with fail
      refine (dmay_any w h).mono ?_
      rintro e w1 ⟨rfl, rfl⟩
      rw [hmay]
      go_wp2_with fail
      refine (there_any w h i).mono ?_
      rintro e w1 ⟨rfl, rfl⟩
      rw [hi']
      go_wp2
      go_ret2
      exact ⟨_, rfl, rdO_nil _, Below.refl _ _⟩
set_option maxHeartbeats 400000 in
theorem Read_nil (w : World) (i : Int) :
    Calls Try.prog 14 #[.pointer none, .int .i64 i] w fun e w' => ∃ v, e = .returned (.tuple #[v, .int .i64 1]) ∧ RdO w' v [] ∧ Below w.heap.size w w' := by
  go_enter Try.func14, Try.ntmps14
  go_wp2_with fail
  refine (may_nil w).mono ?_
  rintro e w1 ⟨rfl, rfl⟩
  go_wp2
  go_ret2
  exact ⟨_, rfl, rdO_nil _, Below.refl _ _⟩
end Go.Proofs.Ytnbjoebdbbhbkaa
