/- DiskReads: its walk. -/
import Derived.Test.YtnbjoebdbbhbkaaDiskLaw3
namespace Go.Proofs.Ytnbjoebdbbhbkaa
open Go.RowKit
set_option linter.unusedVariables false

theorem Blk.dfr {w w' : World} {B g : Nat} {t : TypeId} {cs : Array Value} (h : Blk w g t cs) (hd : DFr B w w') (h1 : t ≠ tDisk) (h2 : t ≠ tLoose) : Blk w' g t cs := hd.keep g cs t (0, 0) h h1 h2
/-- A block that is none of the disk's is written. -/
theorem IsDisk.other {w w1 : World} {B g gl : Nat} {D : DS} {t : TypeId} {c0 cs : Array Value} (h : IsDisk w B g D) (hb : Blk w gl t c0) (hp : Put w w1 gl t cs) (h1 : t ≠ tDisk) (h2 : t ≠ tLoose) : IsDisk w1 B g D := by
  obtain ⟨m, A, c, h⟩ := h
  have hne : g ≠ gl := by
    rintro rfl
    have := h.blk
    unfold Blk at this hb
    rw [hb] at this
    injection this with this
    injection this with _ ht
    exact h1 ht
  have hnm : m ≠ gl := fun e => h.map.ne_blk (e ▸ hb) rfl
  have hno : (Value.slice A D.loose.length c).ownBlock ≠ some gl := own_ne h.own hb (fun cur hx => by injection hx with _ ht; exact h2 ht)
  exact ⟨m, A, c, h.ok, (hp.oth g hne).trans h.blk, h.map.of_same (hp.oth m hnm), h.own.kept (row := some gl) ⟨hp.os, hp.tape, hp.output, Nat.le_of_eq hp.size.symm, fun k _ hk => hp.oth k (fun e => hk (by rw [e]))⟩ (.inr hno), h.gB, h.mB⟩
theorem syncG_read (i : Int) : ∀ (ls : List (Int × List UInt8)) (f : Int → Option (List UInt8)), (syncG f ls i).getD zeros = readL i ls ((f i).getD zeros)
  | [], f => rfl
  | x :: ls, f => by
    show (syncG (putG f x.1 x.2) ls i).getD zeros = readL i ls (if x.1 = i then x.2 else (f i).getD zeros)
    rw [syncG_read i ls (putG f x.1 x.2)]
    congr 1
    unfold putG
    by_cases h : i = x.1
    · rw [if_pos h, if_pos h.symm]; rfl
    · rw [if_neg h, if_neg (fun e => h e.symm)]
theorem readAt_sync (D : DS) (i : Int) : readAt (syncD D) i = readAt D i := syncG_read i D.loose D.good
theorem readAt_push (D : DS) (x : Int × List UInt8) (i : Int) : readAt { D with loose := D.loose ++ [x] } i = if x.1 = i then x.2 else readAt D i := readL_snoc i D.loose x (goodAt D i)
theorem readAt_new (n : Nat) (i : Int) : readAt (newD n) i = zeros := rfl
theorem full1_get (y : UInt8) (k : Nat) (h : k < (fullX [y]).length) : (fullX [y])[k] = y := by
  rw [fullX_get]
  simp [Nat.mod_one]
theorem full_zero : fullX [0] = zeros := by
  unfold fullX zeros
  rw [List.eq_replicate_iff]
  refine ⟨by rw [List.length_map, List.length_range], fun b hb => ?_⟩
  obtain ⟨i, _, rfl⟩ := List.mem_map.1 hb
  simp [Nat.mod_one]
theorem and1_walk (x : UInt8) : bits BinOp.and IntKind.u8 (x.toNat : Int) 1 = ((x.toNat % 2 : Nat) : Int) := by
  rw [show (1 : Int) = ((1 : Nat) : Int) from rfl, u8_and_nat _ _ x.toNat_lt (by omega)]
  congr 1
  exact Nat.and_two_pow_sub_one_eq_mod x.toNat 1
structure LivesLe (D : DS) (n k : Nat) : Prop where
  n : D.n = n
  fails : D.fails = -1
  dead : D.dead = false
  loose : D.loose.length ≤ k
theorem LivesLe.lives {D : DS} {n k : Nat} (h : LivesLe D n k) : Lives D n D.loose.length := ⟨h.n, h.fails, h.dead, rfl⟩
theorem LivesLe.sync {D : DS} {n k : Nat} (h : LivesLe D n k) : syncE D = 0 ∧ syncW D = syncD D := by
  obtain ⟨h1, h2⟩ := h.lives.count
  unfold syncE syncW
  rw [h.dead, h1, h2]
  exact ⟨rfl, rfl⟩
/-- What was written last. -/
def Last (D : DS) (last : List UInt8) : Prop := last.length = 4 ∧ ∀ (j : Nat) (h : j < last.length), readAt D (j : Int) = fullX [last[j]]
theorem Last.new : Last (newD 4) [0, 0, 0, 0] := ⟨rfl, fun j h => by
  rw [readAt_new, ← full_zero]
  congr 1
  simp at h
  match j, h with
  | 0, _ => rfl
  | 1, _ => rfl
  | 2, _ => rfl
  | 3, _ => rfl⟩
theorem Last.push {D : DS} {last : List UInt8} (h : Last D last) (z : Nat) (hz : z < 4) (y : UInt8) : Last { D with loose := D.loose ++ [((z : Int), fullX [y])] } (last.set z y) := by
  obtain ⟨h1, h2⟩ := h
  refine ⟨by rw [List.length_set, h1], fun j hj => ?_⟩
  rw [readAt_push, List.getElem_set]
  by_cases e : z = j
  · subst e; rw [if_pos rfl, if_pos rfl]
  · rw [if_neg (by show ¬ ((z : Int) = (j : Int)); omega), if_neg e]
    exact h2 j (by simpa using hj)
theorem Last.sync {D : DS} {last : List UInt8} (h : Last D last) : Last (syncD D) last := ⟨h.1, fun j hj => by rw [readAt_sync]; exact h.2 j hj⟩
theorem set_cells (last : List UInt8) (z : Nat) (y : UInt8) : ((last.map cb).toArray).setIfInBounds z (.int .u8 (y.toNat : Int)) = ((last.set z y).map cb).toArray := by
  apply Array.toList_inj.1
  simp [List.map_set, cb]
set_option maxRecDepth 100000 in
set_option maxHeartbeats 4000000 in
theorem DiskReads_walk (w : World) (A0 : Option Addr) (c0 : Nat) (l0 : List UInt8) (hc0 : l0.length ≤ c0) (hm0 : c0 ≤ maxLen) (hr0 : Rd w w.heap.size A0 (l0.map cb))
    (A1 : Option Addr) (c1 : Nat) (l1 : List UInt8) (hc1 : l1.length ≤ c1) (hm1 : c1 ≤ maxLen) (hr1 : Rd w w.heap.size A1 (l1.map cb)) :
    Calls Try.prog 5 #[.slice A0 l0.length c0, .slice A1 l1.length c1] w fun e w' => e = .returned (.bool true) ∧ Below w.heap.size w w' := by
  unfold maxLen at hm0 hm1
  have hmk : ∀ w : World, (Instr.makeSlice 22 (.int .i64 4) (.int .i64 4)).run Try.prog w = .ok (.slice (some ⟨w.heap.size, 0, none⟩) 4 4) (w.alloc (.cells (zrow 4 (.int .u8 0)) 5)) := run_mk1 elU8 .i64 .i64 4 (by decide) (by decide)
  go_enter Try.func5, Try.ntmps5
  go_wp2_with fail
  refine (awake_any _).mono ?_
  rintro e w1 ⟨rfl, hb1⟩
  by_cases hs0 : 40 < l0.length
  · go_wp2
    go_ret
    exact ⟨rfl, hb1⟩
  by_cases hs1 : l1.length < l0.length
  · go_wp2
    go_ret
    exact ⟨rfl, hb1⟩
  go_wp2_with fail
  refine (New_yes w1 4 (by omega) (by omega)).mono ?_
  rintro e w2 ⟨g, rfl, hd2, hb2⟩
  have hb12 := bx_trans hb1 hb2
  have hB := hb1.size
  have hB2 := hb2.size
  have hR0 := hid hr0
  have hR1 := hid hr1
  clear hr0 hr1
  have hd3 := hd2.below (bx_alloc (Below.refl _ w2) (.cells (zrow 4 (.int .u8 0)) 5))
  have hb3 : Below w.heap.size w (w2.alloc (.cells (zrow 4 (.int .u8 0)) 5)) := bx_alloc hb12 _
  have hbl3 : Blk (w2.alloc (.cells (zrow 4 (.int .u8 0)) 5)) w2.heap.size 5 ((([0, 0, 0, 0] : List UInt8)).map cb).toArray := Blk.new w2 _ _
  clear hd2
  go_wp2
  go_loopw [9] (fun j wr => ∃ (k : Nat) (D : DS) (last : List UInt8), k ≤ l0.length ∧ j = .int .i64 k ∧ IsDisk wr w1.heap.size g D ∧ LivesLe D 4 k ∧ Last D last ∧ Blk wr w2.heap.size 5 (last.map cb).toArray ∧ Below w.heap.size w wr) (fun j _ => l0.length - (intOf j).toNat)
  case atStart => exact ⟨0, _, _, by omega, rfl, hd3, ⟨rfl, rfl, rfl, Nat.le_refl _⟩, .new, hbl3, hb3⟩
  case round =>
    obtain ⟨k, D, last, hk, rfl, hD, hL, hLast, hblk, hbr⟩ := hrel
    clear hd3 hbl3 hb3
    by_cases hlt : k < l0.length
    · obtain ⟨b, off, rfl, hbb, hd⟩ := (hR0.out.below hbr).at_ (k := k) (by simpa using hlt)
      have hlt1 : k < l1.length := by omega
      obtain ⟨b1, o1, rfl, hbb1, hd1⟩ := (hR1.out.below hbr).at_ (k := k) (by simpa using hlt1)
      have hcell : wr.cell? ⟨b, off + k, none⟩ = some (.int .u8 (l0[k].toNat : Int)) := hd k _ (by simp [cb, hlt])
      have hcell1 : wr.cell? ⟨b1, o1 + k, none⟩ = some (.int .u8 (l1[k].toNat : Int)) := hd1 k _ (by simp [cb, hlt1])
      have hy8 := l0[k].toNat_lt
      have hz := and3_walk l0[k]
      have hz4 : l0[k].toNat % 4 < 4 := Nat.mod_lt _ (by omega)
      have hs := and1_walk l1[k]
      have hs2 : l1[k].toNat % 2 < 2 := Nat.mod_lt _ (by omega)
      clear hd hd1
      generalize l0[k] = y at *
      generalize l1[k] = s at *
      generalize y.toNat % 4 = z at *
      generalize s.toNat % 2 = sy at *
      have hlit := lit_rd (w := wr) (l := [y])
      go_wp2_with fail
      have hDl := hD.below (bx_alloc (Below.refl _ wr) (.cells ([y].map cb).toArray 5))
      refine (full_any _ (l := [y]) hlit.1 (by simp) (by simp [maxLen]) false).mono ?_
      rintro e w4 ⟨gf, rfl, hgf, hblkf, hb4⟩
      have hb4r : Below wr.heap.size wr w4 := bx_trans (bx_alloc (Below.refl _ _) _) hb4
      have hd4 := hD.below hb4r
      obtain ⟨hrf, hof⟩ := full_out hblkf false
      have hlf : (fullR [y] false).length = 256 := fullX_length _
      obtain ⟨hWE, hWD⟩ := hL.lives.wE (i := (z : Int)) (by omega) (by omega) (fullX_length [y])
      have hws : w1.heap.size ≤ w4.heap.size := by obtain ⟨_, _, _, h⟩ := hd4; have := h.gB; have := h.blk.lt; omega
      have hlo := hL.loose
      go_wp2_with fail
      rw [← hlf]
      refine (Write_any w4 hd4 hws _ (by rw [hlf]; decide) (Kp.of_out hrf hof) (Nat.le_refl _) (by omega)).mono ?_
      rintro e w5 ⟨rfl, hd5, hf5⟩
      rw [show fullR [y] false = fullX [y] from rfl] at hd5 ⊢
      rw [hWE]
      rw [hWD] at hd5
      have hLast1 := hLast.push z hz4 y
      have hL1 : LivesLe { D with loose := D.loose ++ [((z : Int), fullX [y])] } 4 (k + 1) := ⟨hL.n, hL.fails, hL.dead, by show (D.loose ++ [((z : Int), fullX [y])]).length ≤ k + 1; rw [List.length_append]; simp; omega⟩
      have hblk5 := (hblk.below hb4r hblk.lt).dfr hf5 (by decide) (by decide)
      have hb5 : Below w.heap.size w w5 := (bx_trans hbr hb4r).trans (hf5.below.mono hB)
      have hH5 : Below w.heap.size wr w5 := (hb4r.mono hbr.size).trans (hf5.below.mono hB)
      have hc15 := (hH5.cell (p := ⟨b1, o1 + k, none⟩) hbb1).trans hcell1
      have hsl := hL1.sync
      clear hd4 hrf hof hblkf hlit hD hDl hb4 hb4r hcell1 hblk hbr
      generalize hDD : ({ D with loose := D.loose ++ [((z : Int), fullX [y])] } : DS) = D5 at *
      by_cases hsy : sy = 1
      · subst hsy
        obtain ⟨hsE, hsW⟩ := hsl
        go_wp2_with fail
        refine (Sync_any w5 hd5).mono ?_
        rintro e w6 ⟨rfl, hd6, hf6⟩
        rw [hsE]
        rw [hsW] at hd6
        have hLast2 := hLast1.sync
        have hL2 : LivesLe (syncD D5) 4 (k + 1) := ⟨hL1.n, hL1.fails, hL1.dead, Nat.zero_le _⟩
        have hblk6 := hblk5.dfr hf6 (by decide) (by decide)
        have hb6 : Below w.heap.size w w6 := hb5.trans (hf6.below.mono hB)
        have hH6 : Below w.heap.size wr w6 := hH5.trans (hf6.below.mono hB)
        generalize syncD D5 = D6 at *

        have hc6 := (hH6.cell (p := ⟨b, off + k, none⟩) hbb).trans hcell
        have hls := hLast.1
        have hzl : z < last.length := by omega
        have hc62 : w6.cell? ⟨w2.heap.size, z, none⟩ = some (.int .u8 (last[z].toNat : Int)) := by
          rw [hblk6.cell]
          simp [hzl, cb]
        have hf62 := hblk6.frozen z
        have hput := setCell_put hblk6 (i := z) (.int .u8 (y.toNat : Int))
        rw [set_cells] at hput
        have hd7 := hd6.other hblk6 hput (by decide) (by decide)
        have hb7 : Below w.heap.size w (w6.setCell ⟨w2.heap.size, z, none⟩ (.int .u8 (y.toNat : Int))) := bx_setCell hb6 (by show w.heap.size ≤ w2.heap.size; omega) _
        have hblk7 := hput.blk
        have hs7 : w1.heap.size ≤ (w6.setCell ⟨w2.heap.size, z, none⟩ (.int .u8 (y.toNat : Int))).heap.size := by obtain ⟨_, _, _, h⟩ := hd7; have := h.gB; have := h.blk.lt; omega
        have HL2 := hid hLast2
        have HL := hid hL2
        clear hput hd6 hblk6 hcell hL hLast hb6
        generalize last.set z y = last2 at *
        go_wp2
        go_loopw [11] (fun j wq => ∃ q : Nat, q ≤ 4 ∧ j = .int .i64 q ∧ Below (w6.setCell ⟨w2.heap.size, z, none⟩ (.int .u8 (y.toNat : Int))).heap.size (w6.setCell ⟨w2.heap.size, z, none⟩ (.int .u8 (y.toNat : Int))) wq) (fun j _ => 4 - (intOf j).toNat)
        case atStart => exact ⟨0, by omega, rfl, Below.refl _ _⟩
        case round =>
          obtain ⟨q, hq, rfl, hbq⟩ := hrel
          have hdq := hd7.below hbq
          have hblkq := hblk7.below hbq hblk7.lt
          by_cases hltq : q < 4
          · obtain ⟨hrE, hrV⟩ := HL.out.lives.read (i := (q : Int)) (by omega) (by omega)
            have hlq : q < last2.length := by have := HL2.out.1; omega
            have hra := HL2.out.2 q hlq
            go_wp2_with fail
            refine (Read_any _ hdq (Nat.le_trans hs7 hbq.size) (q : Int)).mono ?_
            rintro e w9 ⟨v, rfl, hv, hb9⟩
            rw [hrV, hra] at hv
            rw [hrE]
            obtain ⟨Av, cv, rfl, hcv⟩ := hv.cell
            obtain ⟨bv, ov, rfl, hc0v⟩ := hcv 0 (by rw [fullX_length]; omega)
            obtain ⟨_, _, heq, hc255⟩ := hcv 255 (by rw [fullX_length]; omega)
            injection heq with heq
            injection heq with heq1 heq2
            subst heq1 heq2
            rw [full1_get] at hc0v hc255
            rw [fullX_length]
            have hcl : w9.cell? ⟨w2.heap.size, q, none⟩ = some (.int .u8 (last2[q].toNat : Int)) := by
              rw [(hblkq.below hb9 hblkq.lt).cell]
              simp [hlq, cb]
            have hbvl : bv < w9.heap.size := World.block_lt_of_cell? w9 _ hc0v
            have hgl9 : w2.heap.size < w9.heap.size := (hblkq.below hb9 hblkq.lt).lt
            have HB9 := hid (bx_trans hbq hb9)
            clear hcv hv hblkq hdq
            generalize last2[q] = x at *
            generalize hgg : w2.heap.size = gl at *
            have HGG := hid hgg
            clear hgg
            go_wp2_with fail
            refine wp_flow (by kernel_rfl) [0, 1, 3, 7, 15, 31, 63, 127, 255, 511, 1023, 255, 255, 6399, 14591, 32767, 65535, 131071, 262143, 524287, 1048575, 262143, 262143, 6553599, 14942207, 33554431, 67108863] 26 [false, false, false, false, false, false, false, false, false, false, false, false, false, false, false, false, false, false, false, false, false, false, false, false, false, false, false, false, false, false, false, false, false, false, false, false, false, false, false, false, false, false, false, false, false, false, false, false, false, false, false, false, false, false, false, false, false, false, false, false, false, false, false, false, false, false, false, false, false, false, false, false, false, false, false, false, false, false, false, false, false, false, false, false, false, false, true, true, true, true, true, true, true, true, true, true, true, true, true, true, true, true, true, true, true, true, true, true, true, true, true, true, false] (by kernel_rfl) (by decide) (by kernel_rfl) [FP.eq (.int .i64 0), FP.eq (.bool false), FP.eq (.bool false), FP.eq (.slice (some ⟨bv, ov, none⟩) 256 cv), FP.eq (.int .i64 256), FP.eq (.bool false), FP.eq (.bool false), FP.eq (.bool false), FP.eq (.slice (some ⟨bv, ov, none⟩) 256 cv), FP.eq (.pointer (some ⟨bv, ov, none⟩)), FP.eq (.int .u8 (x.toNat : Int)), FP.eq (.slice (some ⟨gl, 0, none⟩) 4 4), FP.eq (.int .i64 q), FP.eq (.pointer (some ⟨gl, q, none⟩)), FP.eq (.int .u8 (x.toNat : Int)), FP.eq (.bool false), FP.eq (.bool false), FP.eq (.bool false), FP.eq (.slice (some ⟨bv, ov, none⟩) 256 cv), FP.eq (.pointer (some ⟨bv, ov + 255, none⟩)), FP.eq (.int .u8 (x.toNat : Int)), FP.eq (.slice (some ⟨gl, 0, none⟩) 4 4), FP.eq (.int .i64 q), FP.eq (.pointer (some ⟨gl, q, none⟩)), FP.eq (.int .u8 (x.toNat : Int)), FP.eq (.bool false)] ?_ ?_
            · refine allFrom_cons ?_ ?_
              · intro a_ w_ hk_
                have h13 : a_.eval (.tmp 13) = .int .i64 0 := hk_.old 13 (by kernel_rfl)
                have hx_ := hk_.ext
                clear hk_
                refine flow_plain rfl ?_
                exact gives_move rfl ⟨Below.refl _ _, h13⟩
              refine allFrom_cons ?_ ?_
              · intro a_ w_ hk_
                have h86 : a_.eval (.tmp 86) = (.int .i64 0) := hk_.got 0 86 _ (by kernel_rfl) rfl rfl
                have hx_ := hk_.ext
                clear hk_
                refine flow_plain rfl ?_
                unfold gives
                have hc_ : ∀ v, a_.eval (.const v) = v := fun _ => rfl
                have hn_ : ∀ f, a_.eval (.func f) = .func (.func f) #[] #[] := fun _ => rfl
                generalize a_.eval = ρ_ at *
                go_simp
                exact ⟨Below.refl _ _, rfl⟩
              refine allFrom_cons ?_ ?_
              · intro a_ w_ hk_
                have h87 : a_.eval (.tmp 87) = (.bool false) := hk_.got 1 87 _ (by kernel_rfl) rfl rfl
                have hx_ := hk_.ext
                clear hk_
                refine flow_plain rfl ?_
                exact gives_move rfl ⟨Below.refl _ _, h87⟩
              refine allFrom_cons ?_ ?_
              · intro a_ w_ hk_
                have h12 : a_.eval (.tmp 12) = .slice (some ⟨bv, ov, none⟩) 256 cv := hk_.old 12 (by kernel_rfl)
                have hg_ : a_.eval (.tmp 88) = .bool false := hk_.got 2 88 _ (by kernel_rfl) rfl rfl
                have hy_ := hk_.want 2 _ 88 false rfl rfl hg_
                have hx_ := hk_.ext
                clear hk_
                refine flow_want rfl hy_ ?_
                exact gives_move rfl ⟨Below.refl _ _, h12⟩
              refine allFrom_cons ?_ ?_
              · intro a_ w_ hk_
                have h89 : a_.eval (.tmp 89) = (.slice (some ⟨bv, ov, none⟩) 256 cv) := hk_.got 3 89 _ (by kernel_rfl) rfl rfl
                have hg_ : a_.eval (.tmp 88) = .bool false := hk_.got 2 88 _ (by kernel_rfl) rfl rfl
                have hy_ := hk_.want 2 _ 88 false rfl rfl hg_
                have hx_ := hk_.ext
                clear hk_
                refine flow_want rfl hy_ ?_
                unfold gives
                have hc_ : ∀ v, a_.eval (.const v) = v := fun _ => rfl
                have hn_ : ∀ f, a_.eval (.func f) = .func (.func f) #[] #[] := fun _ => rfl
                clear hy_ hg_
                generalize a_.eval = ρ_ at *
                go_simp
                exact ⟨Below.refl _ _, rfl⟩
              refine allFrom_cons ?_ ?_
              · intro a_ w_ hk_
                have h90 : a_.eval (.tmp 90) = (.int .i64 256) := hk_.got 4 90 _ (by kernel_rfl) rfl rfl
                have hg_ : a_.eval (.tmp 88) = .bool false := hk_.got 2 88 _ (by kernel_rfl) rfl rfl
                have hy_ := hk_.want 2 _ 88 false rfl rfl hg_
                have hx_ := hk_.ext
                clear hk_
                refine flow_want rfl hy_ ?_
                unfold gives
                have hc_ : ∀ v, a_.eval (.const v) = v := fun _ => rfl
                have hn_ : ∀ f, a_.eval (.func f) = .func (.func f) #[] #[] := fun _ => rfl
                clear hy_ hg_
                generalize a_.eval = ρ_ at *
                go_simp
                exact ⟨Below.refl _ _, rfl⟩
              refine allFrom_cons ?_ ?_
              · intro a_ w_ hk_
                have h88 : a_.eval (.tmp 88) = (.bool false) := hk_.got 2 88 _ (by kernel_rfl) rfl rfl
                have h91 : a_.eval (.tmp 91) = (.bool false) := hk_.got 5 91 _ (by kernel_rfl) rfl rfl
                have hx_ := hk_.ext
                clear hk_
                refine flow_plain rfl ?_
                exact gives_pick rfl h88 ⟨Below.refl _ _, h91⟩
              refine allFrom_cons ?_ ?_
              · intro a_ w_ hk_
                have h92 : a_.eval (.tmp 92) = (.bool false) := hk_.got 6 92 _ (by kernel_rfl) rfl rfl
                have hx_ := hk_.ext
                clear hk_
                refine flow_plain rfl ?_
                exact gives_move rfl ⟨Below.refl _ _, h92⟩
              refine allFrom_cons ?_ ?_
              · intro a_ w_ hk_
                have h12 : a_.eval (.tmp 12) = .slice (some ⟨bv, ov, none⟩) 256 cv := hk_.old 12 (by kernel_rfl)
                have hg_ : a_.eval (.tmp 93) = .bool false := hk_.got 7 93 _ (by kernel_rfl) rfl rfl
                have hy_ := hk_.want 7 _ 93 false rfl rfl hg_
                have hx_ := hk_.ext
                clear hk_
                refine flow_want rfl hy_ ?_
                exact gives_move rfl ⟨Below.refl _ _, h12⟩
              refine allFrom_cons ?_ ?_
              · intro a_ w_ hk_
                have h94 : a_.eval (.tmp 94) = (.slice (some ⟨bv, ov, none⟩) 256 cv) := hk_.got 8 94 _ (by kernel_rfl) rfl rfl
                have hg_ : a_.eval (.tmp 93) = .bool false := hk_.got 7 93 _ (by kernel_rfl) rfl rfl
                have hy_ := hk_.want 7 _ 93 false rfl rfl hg_
                have hx_ := hk_.ext
                clear hk_
                refine flow_want rfl hy_ ?_
                unfold gives
                have hc_ : ∀ v, a_.eval (.const v) = v := fun _ => rfl
                have hn_ : ∀ f, a_.eval (.func f) = .func (.func f) #[] #[] := fun _ => rfl
                clear hy_ hg_
                generalize a_.eval = ρ_ at *
                go_simp
                exact ⟨Below.refl _ _, rfl⟩
              refine allFrom_cons ?_ ?_
              · intro a_ w_ hk_
                have h95 : a_.eval (.tmp 95) = (.pointer (some ⟨bv, ov, none⟩)) := hk_.got 9 95 _ (by kernel_rfl) rfl rfl
                have hg_ : a_.eval (.tmp 93) = .bool false := hk_.got 7 93 _ (by kernel_rfl) rfl rfl
                have hy_ := hk_.want 7 _ 93 false rfl rfl hg_
                have hx_ := hk_.ext
                clear hk_
                refine flow_want rfl hy_ ?_
                unfold gives
                have hc_ : ∀ v, a_.eval (.const v) = v := fun _ => rfl
                have hn_ : ∀ f, a_.eval (.func f) = .func (.func f) #[] #[] := fun _ => rfl
                clear hy_ hg_
                have hcell := (hx_.cell (p := ⟨bv, ov, none⟩) hbvl).trans hc0v
                generalize a_.eval = ρ_ at *
                go_simp
                exact ⟨Below.refl _ _, rfl⟩
              refine allFrom_cons ?_ ?_
              · intro a_ w_ hk_
                have h8 : a_.eval (.tmp 8) = .slice (some ⟨gl, 0, none⟩) 4 4 := hk_.old 8 (by kernel_rfl)
                have hg_ : a_.eval (.tmp 93) = .bool false := hk_.got 7 93 _ (by kernel_rfl) rfl rfl
                have hy_ := hk_.want 7 _ 93 false rfl rfl hg_
                have hx_ := hk_.ext
                clear hk_
                refine flow_want rfl hy_ ?_
                exact gives_move rfl ⟨Below.refl _ _, h8⟩
              refine allFrom_cons ?_ ?_
              · intro a_ w_ hk_
                have h11 : a_.eval (.tmp 11) = .int .i64 q := hk_.old 11 (by kernel_rfl)
                have hg_ : a_.eval (.tmp 93) = .bool false := hk_.got 7 93 _ (by kernel_rfl) rfl rfl
                have hy_ := hk_.want 7 _ 93 false rfl rfl hg_
                have hx_ := hk_.ext
                clear hk_
                refine flow_want rfl hy_ ?_
                exact gives_move rfl ⟨Below.refl _ _, h11⟩
              refine allFrom_cons ?_ ?_
              · intro a_ w_ hk_
                have h97 : a_.eval (.tmp 97) = (.slice (some ⟨gl, 0, none⟩) 4 4) := hk_.got 11 97 _ (by kernel_rfl) rfl rfl
                have h98 : a_.eval (.tmp 98) = (.int .i64 q) := hk_.got 12 98 _ (by kernel_rfl) rfl rfl
                have hg_ : a_.eval (.tmp 93) = .bool false := hk_.got 7 93 _ (by kernel_rfl) rfl rfl
                have hy_ := hk_.want 7 _ 93 false rfl rfl hg_
                have hx_ := hk_.ext
                clear hk_
                refine flow_want rfl hy_ ?_
                unfold gives
                have hc_ : ∀ v, a_.eval (.const v) = v := fun _ => rfl
                have hn_ : ∀ f, a_.eval (.func f) = .func (.func f) #[] #[] := fun _ => rfl
                clear hy_ hg_
                generalize a_.eval = ρ_ at *
                go_simp
                exact ⟨Below.refl _ _, rfl⟩
              refine allFrom_cons ?_ ?_
              · intro a_ w_ hk_
                have h99 : a_.eval (.tmp 99) = (.pointer (some ⟨gl, q, none⟩)) := hk_.got 13 99 _ (by kernel_rfl) rfl rfl
                have hg_ : a_.eval (.tmp 93) = .bool false := hk_.got 7 93 _ (by kernel_rfl) rfl rfl
                have hy_ := hk_.want 7 _ 93 false rfl rfl hg_
                have hx_ := hk_.ext
                clear hk_
                refine flow_want rfl hy_ ?_
                unfold gives
                have hc_ : ∀ v, a_.eval (.const v) = v := fun _ => rfl
                have hn_ : ∀ f, a_.eval (.func f) = .func (.func f) #[] #[] := fun _ => rfl
                clear hy_ hg_
                have hcell := (hx_.cell (p := ⟨gl, q, none⟩) hgl9).trans hcl
                generalize a_.eval = ρ_ at *
                go_simp
                exact ⟨Below.refl _ _, rfl⟩
              refine allFrom_cons ?_ ?_
              · intro a_ w_ hk_
                have h96 : a_.eval (.tmp 96) = (.int .u8 (x.toNat : Int)) := hk_.got 10 96 _ (by kernel_rfl) rfl rfl
                have h100 : a_.eval (.tmp 100) = (.int .u8 (x.toNat : Int)) := hk_.got 14 100 _ (by kernel_rfl) rfl rfl
                have hg_ : a_.eval (.tmp 93) = .bool false := hk_.got 7 93 _ (by kernel_rfl) rfl rfl
                have hy_ := hk_.want 7 _ 93 false rfl rfl hg_
                have hx_ := hk_.ext
                clear hk_
                refine flow_want rfl hy_ ?_
                unfold gives
                have hc_ : ∀ v, a_.eval (.const v) = v := fun _ => rfl
                have hn_ : ∀ f, a_.eval (.func f) = .func (.func f) #[] #[] := fun _ => rfl
                clear hy_ hg_
                generalize a_.eval = ρ_ at *
                go_simp
                exact ⟨Below.refl _ _, rfl⟩
              refine allFrom_cons ?_ ?_
              · intro a_ w_ hk_
                have h93 : a_.eval (.tmp 93) = (.bool false) := hk_.got 7 93 _ (by kernel_rfl) rfl rfl
                have h101 : a_.eval (.tmp 101) = (.bool false) := hk_.got 15 101 _ (by kernel_rfl) rfl rfl
                have hx_ := hk_.ext
                clear hk_
                refine flow_plain rfl ?_
                exact gives_pick rfl h93 ⟨Below.refl _ _, h101⟩
              refine allFrom_cons ?_ ?_
              · intro a_ w_ hk_
                have h102 : a_.eval (.tmp 102) = (.bool false) := hk_.got 16 102 _ (by kernel_rfl) rfl rfl
                have hx_ := hk_.ext
                clear hk_
                refine flow_plain rfl ?_
                exact gives_move rfl ⟨Below.refl _ _, h102⟩
              refine allFrom_cons ?_ ?_
              · intro a_ w_ hk_
                have h12 : a_.eval (.tmp 12) = .slice (some ⟨bv, ov, none⟩) 256 cv := hk_.old 12 (by kernel_rfl)
                have hg_ : a_.eval (.tmp 103) = .bool false := hk_.got 17 103 _ (by kernel_rfl) rfl rfl
                have hy_ := hk_.want 17 _ 103 false rfl rfl hg_
                have hx_ := hk_.ext
                clear hk_
                refine flow_want rfl hy_ ?_
                exact gives_move rfl ⟨Below.refl _ _, h12⟩
              refine allFrom_cons ?_ ?_
              · intro a_ w_ hk_
                have h104 : a_.eval (.tmp 104) = (.slice (some ⟨bv, ov, none⟩) 256 cv) := hk_.got 18 104 _ (by kernel_rfl) rfl rfl
                have hg_ : a_.eval (.tmp 103) = .bool false := hk_.got 17 103 _ (by kernel_rfl) rfl rfl
                have hy_ := hk_.want 17 _ 103 false rfl rfl hg_
                have hx_ := hk_.ext
                clear hk_
                refine flow_want rfl hy_ ?_
                unfold gives
                have hc_ : ∀ v, a_.eval (.const v) = v := fun _ => rfl
                have hn_ : ∀ f, a_.eval (.func f) = .func (.func f) #[] #[] := fun _ => rfl
                clear hy_ hg_
                generalize a_.eval = ρ_ at *
                go_simp
                exact ⟨Below.refl _ _, rfl⟩
              refine allFrom_cons ?_ ?_
              · intro a_ w_ hk_
                have h105 : a_.eval (.tmp 105) = (.pointer (some ⟨bv, ov + 255, none⟩)) := hk_.got 19 105 _ (by kernel_rfl) rfl rfl
                have hg_ : a_.eval (.tmp 103) = .bool false := hk_.got 17 103 _ (by kernel_rfl) rfl rfl
                have hy_ := hk_.want 17 _ 103 false rfl rfl hg_
                have hx_ := hk_.ext
                clear hk_
                refine flow_want rfl hy_ ?_
                unfold gives
                have hc_ : ∀ v, a_.eval (.const v) = v := fun _ => rfl
                have hn_ : ∀ f, a_.eval (.func f) = .func (.func f) #[] #[] := fun _ => rfl
                clear hy_ hg_
                have hcell := (hx_.cell (p := ⟨bv, ov + 255, none⟩) hbvl).trans hc255
                generalize a_.eval = ρ_ at *
                go_simp
                exact ⟨Below.refl _ _, rfl⟩
              refine allFrom_cons ?_ ?_
              · intro a_ w_ hk_
                have h8 : a_.eval (.tmp 8) = .slice (some ⟨gl, 0, none⟩) 4 4 := hk_.old 8 (by kernel_rfl)
                have hg_ : a_.eval (.tmp 103) = .bool false := hk_.got 17 103 _ (by kernel_rfl) rfl rfl
                have hy_ := hk_.want 17 _ 103 false rfl rfl hg_
                have hx_ := hk_.ext
                clear hk_
                refine flow_want rfl hy_ ?_
                exact gives_move rfl ⟨Below.refl _ _, h8⟩
              refine allFrom_cons ?_ ?_
              · intro a_ w_ hk_
                have h11 : a_.eval (.tmp 11) = .int .i64 q := hk_.old 11 (by kernel_rfl)
                have hg_ : a_.eval (.tmp 103) = .bool false := hk_.got 17 103 _ (by kernel_rfl) rfl rfl
                have hy_ := hk_.want 17 _ 103 false rfl rfl hg_
                have hx_ := hk_.ext
                clear hk_
                refine flow_want rfl hy_ ?_
                exact gives_move rfl ⟨Below.refl _ _, h11⟩
              refine allFrom_cons ?_ ?_
              · intro a_ w_ hk_
                have h107 : a_.eval (.tmp 107) = (.slice (some ⟨gl, 0, none⟩) 4 4) := hk_.got 21 107 _ (by kernel_rfl) rfl rfl
                have h108 : a_.eval (.tmp 108) = (.int .i64 q) := hk_.got 22 108 _ (by kernel_rfl) rfl rfl
                have hg_ : a_.eval (.tmp 103) = .bool false := hk_.got 17 103 _ (by kernel_rfl) rfl rfl
                have hy_ := hk_.want 17 _ 103 false rfl rfl hg_
                have hx_ := hk_.ext
                clear hk_
                refine flow_want rfl hy_ ?_
                unfold gives
                have hc_ : ∀ v, a_.eval (.const v) = v := fun _ => rfl
                have hn_ : ∀ f, a_.eval (.func f) = .func (.func f) #[] #[] := fun _ => rfl
                clear hy_ hg_
                generalize a_.eval = ρ_ at *
                go_simp
                exact ⟨Below.refl _ _, rfl⟩
              refine allFrom_cons ?_ ?_
              · intro a_ w_ hk_
                have h109 : a_.eval (.tmp 109) = (.pointer (some ⟨gl, q, none⟩)) := hk_.got 23 109 _ (by kernel_rfl) rfl rfl
                have hg_ : a_.eval (.tmp 103) = .bool false := hk_.got 17 103 _ (by kernel_rfl) rfl rfl
                have hy_ := hk_.want 17 _ 103 false rfl rfl hg_
                have hx_ := hk_.ext
                clear hk_
                refine flow_want rfl hy_ ?_
                unfold gives
                have hc_ : ∀ v, a_.eval (.const v) = v := fun _ => rfl
                have hn_ : ∀ f, a_.eval (.func f) = .func (.func f) #[] #[] := fun _ => rfl
                clear hy_ hg_
                have hcell := (hx_.cell (p := ⟨gl, q, none⟩) hgl9).trans hcl
                generalize a_.eval = ρ_ at *
                go_simp
                exact ⟨Below.refl _ _, rfl⟩
              refine allFrom_cons ?_ ?_
              · intro a_ w_ hk_
                have h106 : a_.eval (.tmp 106) = (.int .u8 (x.toNat : Int)) := hk_.got 20 106 _ (by kernel_rfl) rfl rfl
                have h110 : a_.eval (.tmp 110) = (.int .u8 (x.toNat : Int)) := hk_.got 24 110 _ (by kernel_rfl) rfl rfl
                have hg_ : a_.eval (.tmp 103) = .bool false := hk_.got 17 103 _ (by kernel_rfl) rfl rfl
                have hy_ := hk_.want 17 _ 103 false rfl rfl hg_
                have hx_ := hk_.ext
                clear hk_
                refine flow_want rfl hy_ ?_
                unfold gives
                have hc_ : ∀ v, a_.eval (.const v) = v := fun _ => rfl
                have hn_ : ∀ f, a_.eval (.func f) = .func (.func f) #[] #[] := fun _ => rfl
                clear hy_ hg_
                generalize a_.eval = ρ_ at *
                go_simp
                exact ⟨Below.refl _ _, rfl⟩
              exact allFrom_nil
            intro f_ w_ hx_ hf_
            have h86 : f_ 86 = (.int .i64 0) := hf_ 0 86 _ (by decide) rfl rfl
            have h87 : f_ 87 = (.bool false) := hf_ 1 87 _ (by decide) rfl rfl
            have h88 : f_ 88 = (.bool false) := hf_ 2 88 _ (by decide) rfl rfl
            have h89 : f_ 89 = (.slice (some ⟨bv, ov, none⟩) 256 cv) := hf_ 3 89 _ (by decide) rfl rfl
            have h90 : f_ 90 = (.int .i64 256) := hf_ 4 90 _ (by decide) rfl rfl
            have h91 : f_ 91 = (.bool false) := hf_ 5 91 _ (by decide) rfl rfl
            have h92 : f_ 92 = (.bool false) := hf_ 6 92 _ (by decide) rfl rfl
            have h93 : f_ 93 = (.bool false) := hf_ 7 93 _ (by decide) rfl rfl
            have h94 : f_ 94 = (.slice (some ⟨bv, ov, none⟩) 256 cv) := hf_ 8 94 _ (by decide) rfl rfl
            have h95 : f_ 95 = (.pointer (some ⟨bv, ov, none⟩)) := hf_ 9 95 _ (by decide) rfl rfl
            have h96 : f_ 96 = (.int .u8 (x.toNat : Int)) := hf_ 10 96 _ (by decide) rfl rfl
            have h97 : f_ 97 = (.slice (some ⟨gl, 0, none⟩) 4 4) := hf_ 11 97 _ (by decide) rfl rfl
            have h98 : f_ 98 = (.int .i64 q) := hf_ 12 98 _ (by decide) rfl rfl
            have h99 : f_ 99 = (.pointer (some ⟨gl, q, none⟩)) := hf_ 13 99 _ (by decide) rfl rfl
            have h100 : f_ 100 = (.int .u8 (x.toNat : Int)) := hf_ 14 100 _ (by decide) rfl rfl
            have h101 : f_ 101 = (.bool false) := hf_ 15 101 _ (by decide) rfl rfl
            have h102 : f_ 102 = (.bool false) := hf_ 16 102 _ (by decide) rfl rfl
            have h103 : f_ 103 = (.bool false) := hf_ 17 103 _ (by decide) rfl rfl
            have h104 : f_ 104 = (.slice (some ⟨bv, ov, none⟩) 256 cv) := hf_ 18 104 _ (by decide) rfl rfl
            have h105 : f_ 105 = (.pointer (some ⟨bv, ov + 255, none⟩)) := hf_ 19 105 _ (by decide) rfl rfl
            have h106 : f_ 106 = (.int .u8 (x.toNat : Int)) := hf_ 20 106 _ (by decide) rfl rfl
            have h107 : f_ 107 = (.slice (some ⟨gl, 0, none⟩) 4 4) := hf_ 21 107 _ (by decide) rfl rfl
            have h108 : f_ 108 = (.int .i64 q) := hf_ 22 108 _ (by decide) rfl rfl
            have h109 : f_ 109 = (.pointer (some ⟨gl, q, none⟩)) := hf_ 23 109 _ (by decide) rfl rfl
            have h110 : f_ 110 = (.int .u8 (x.toNat : Int)) := hf_ 24 110 _ (by decide) rfl rfl
            have h111 : f_ 111 = (.bool false) := hf_ 25 111 _ (by decide) rfl rfl
            simp only [mix, List.drop_succ_cons, List.drop_zero, h86, h87, h88, h89, h90, h91, h92, h93, h94, h95, h96, h97, h98, h99, h100, h101, h102, h103, h104, h105, h106, h107, h108, h109, h110, h111]
            clear h86 h87 h88 h89 h90 h91 h92 h93 h94 h95 h96 h97 h98 h99 h100 h101 h102 h103 h104 h105 h106 h107 h108 h109 h110 h111
            clear hf_
            go_wp2
            have hgg := HGG.out
            subst hgg
            go_roundw
            case rel => exact ⟨q + 1, by omega, by go_num, bx_trans HB9.out hx_⟩
            case measure => simp [intOf]; omega
          · obtain rfl : q = 4 := by omega
            have hfin : Below w.heap.size w wr := hb7.trans (hbq.mono hb7.size)
            go_wp2
            go_roundw
            case rel => exact ⟨k + 1, _, _, by omega, by go_num, hdq, HL.out, HL2.out, hblkq, hfin⟩
            case measure => simp [intOf]; omega
      · obtain rfl : sy = 0 := by omega
        have hd6 := hd5
        have hLast2 := hLast1
        have hL2 := hL1
        have hblk6 := hblk5
        have hb6 := hb5
        clear hsl
        generalize hwe : w5 = w6 at *
        clear hwe
        generalize hde : D5 = D6 at *
        clear hde

        have hc6 := (hH5.cell (p := ⟨b, off + k, none⟩) hbb).trans hcell
        have hls := hLast.1
        have hzl : z < last.length := by omega
        have hc62 : w6.cell? ⟨w2.heap.size, z, none⟩ = some (.int .u8 (last[z].toNat : Int)) := by
          rw [hblk6.cell]
          simp [hzl, cb]
        have hf62 := hblk6.frozen z
        have hput := setCell_put hblk6 (i := z) (.int .u8 (y.toNat : Int))
        rw [set_cells] at hput
        have hd7 := hd6.other hblk6 hput (by decide) (by decide)
        have hb7 : Below w.heap.size w (w6.setCell ⟨w2.heap.size, z, none⟩ (.int .u8 (y.toNat : Int))) := bx_setCell hb6 (by show w.heap.size ≤ w2.heap.size; omega) _
        have hblk7 := hput.blk
        have hs7 : w1.heap.size ≤ (w6.setCell ⟨w2.heap.size, z, none⟩ (.int .u8 (y.toNat : Int))).heap.size := by obtain ⟨_, _, _, h⟩ := hd7; have := h.gB; have := h.blk.lt; omega
        have HL2 := hid hLast2
        have HL := hid hL2
        clear hput hd6 hblk6 hcell hL hLast hb6
        generalize last.set z y = last2 at *
        go_wp2
        go_loopw [11] (fun j wq => ∃ q : Nat, q ≤ 4 ∧ j = .int .i64 q ∧ Below (w6.setCell ⟨w2.heap.size, z, none⟩ (.int .u8 (y.toNat : Int))).heap.size (w6.setCell ⟨w2.heap.size, z, none⟩ (.int .u8 (y.toNat : Int))) wq) (fun j _ => 4 - (intOf j).toNat)
        case atStart => exact ⟨0, by omega, rfl, Below.refl _ _⟩
        case round =>
          obtain ⟨q, hq, rfl, hbq⟩ := hrel
          have hdq := hd7.below hbq
          have hblkq := hblk7.below hbq hblk7.lt
          by_cases hltq : q < 4
          · obtain ⟨hrE, hrV⟩ := HL.out.lives.read (i := (q : Int)) (by omega) (by omega)
            have hlq : q < last2.length := by have := HL2.out.1; omega
            have hra := HL2.out.2 q hlq
            go_wp2_with fail
            refine (Read_any _ hdq (Nat.le_trans hs7 hbq.size) (q : Int)).mono ?_
            rintro e w9 ⟨v, rfl, hv, hb9⟩
            rw [hrV, hra] at hv
            rw [hrE]
            obtain ⟨Av, cv, rfl, hcv⟩ := hv.cell
            obtain ⟨bv, ov, rfl, hc0v⟩ := hcv 0 (by rw [fullX_length]; omega)
            obtain ⟨_, _, heq, hc255⟩ := hcv 255 (by rw [fullX_length]; omega)
            injection heq with heq
            injection heq with heq1 heq2
            subst heq1 heq2
            rw [full1_get] at hc0v hc255
            rw [fullX_length]
            have hcl : w9.cell? ⟨w2.heap.size, q, none⟩ = some (.int .u8 (last2[q].toNat : Int)) := by
              rw [(hblkq.below hb9 hblkq.lt).cell]
              simp [hlq, cb]
            have hbvl : bv < w9.heap.size := World.block_lt_of_cell? w9 _ hc0v
            have hgl9 : w2.heap.size < w9.heap.size := (hblkq.below hb9 hblkq.lt).lt
            have HB9 := hid (bx_trans hbq hb9)
            clear hcv hv hblkq hdq
            generalize last2[q] = x at *
            generalize hgg : w2.heap.size = gl at *
            have HGG := hid hgg
            clear hgg
            go_wp2_with fail
            refine wp_flow (by kernel_rfl) [0, 1, 3, 7, 15, 31, 63, 127, 255, 511, 1023, 255, 255, 6399, 14591, 32767, 65535, 131071, 262143, 524287, 1048575, 262143, 262143, 6553599, 14942207, 33554431, 67108863] 26 [false, false, false, false, false, false, false, false, false, false, false, false, false, false, false, false, false, false, false, false, false, false, false, false, false, false, false, false, false, false, false, false, false, false, false, false, false, false, false, false, false, false, false, false, false, false, false, false, false, false, false, false, false, false, false, false, false, false, false, false, false, false, false, false, false, false, false, false, false, false, false, false, false, false, false, false, false, false, false, false, false, false, false, false, false, false, true, true, true, true, true, true, true, true, true, true, true, true, true, true, true, true, true, true, true, true, true, true, true, true, true, true, false] (by kernel_rfl) (by decide) (by kernel_rfl) [FP.eq (.int .i64 0), FP.eq (.bool false), FP.eq (.bool false), FP.eq (.slice (some ⟨bv, ov, none⟩) 256 cv), FP.eq (.int .i64 256), FP.eq (.bool false), FP.eq (.bool false), FP.eq (.bool false), FP.eq (.slice (some ⟨bv, ov, none⟩) 256 cv), FP.eq (.pointer (some ⟨bv, ov, none⟩)), FP.eq (.int .u8 (x.toNat : Int)), FP.eq (.slice (some ⟨gl, 0, none⟩) 4 4), FP.eq (.int .i64 q), FP.eq (.pointer (some ⟨gl, q, none⟩)), FP.eq (.int .u8 (x.toNat : Int)), FP.eq (.bool false), FP.eq (.bool false), FP.eq (.bool false), FP.eq (.slice (some ⟨bv, ov, none⟩) 256 cv), FP.eq (.pointer (some ⟨bv, ov + 255, none⟩)), FP.eq (.int .u8 (x.toNat : Int)), FP.eq (.slice (some ⟨gl, 0, none⟩) 4 4), FP.eq (.int .i64 q), FP.eq (.pointer (some ⟨gl, q, none⟩)), FP.eq (.int .u8 (x.toNat : Int)), FP.eq (.bool false)] ?_ ?_
            · refine allFrom_cons ?_ ?_
              · intro a_ w_ hk_
                have h13 : a_.eval (.tmp 13) = .int .i64 0 := hk_.old 13 (by kernel_rfl)
                have hx_ := hk_.ext
                clear hk_
                refine flow_plain rfl ?_
                exact gives_move rfl ⟨Below.refl _ _, h13⟩
              refine allFrom_cons ?_ ?_
              · intro a_ w_ hk_
                have h86 : a_.eval (.tmp 86) = (.int .i64 0) := hk_.got 0 86 _ (by kernel_rfl) rfl rfl
                have hx_ := hk_.ext
                clear hk_
                refine flow_plain rfl ?_
                unfold gives
                have hc_ : ∀ v, a_.eval (.const v) = v := fun _ => rfl
                have hn_ : ∀ f, a_.eval (.func f) = .func (.func f) #[] #[] := fun _ => rfl
                generalize a_.eval = ρ_ at *
                go_simp
                exact ⟨Below.refl _ _, rfl⟩
              refine allFrom_cons ?_ ?_
              · intro a_ w_ hk_
                have h87 : a_.eval (.tmp 87) = (.bool false) := hk_.got 1 87 _ (by kernel_rfl) rfl rfl
                have hx_ := hk_.ext
                clear hk_
                refine flow_plain rfl ?_
                exact gives_move rfl ⟨Below.refl _ _, h87⟩
              refine allFrom_cons ?_ ?_
              · intro a_ w_ hk_
                have h12 : a_.eval (.tmp 12) = .slice (some ⟨bv, ov, none⟩) 256 cv := hk_.old 12 (by kernel_rfl)
                have hg_ : a_.eval (.tmp 88) = .bool false := hk_.got 2 88 _ (by kernel_rfl) rfl rfl
                have hy_ := hk_.want 2 _ 88 false rfl rfl hg_
                have hx_ := hk_.ext
                clear hk_
                refine flow_want rfl hy_ ?_
                exact gives_move rfl ⟨Below.refl _ _, h12⟩
              refine allFrom_cons ?_ ?_
              · intro a_ w_ hk_
                have h89 : a_.eval (.tmp 89) = (.slice (some ⟨bv, ov, none⟩) 256 cv) := hk_.got 3 89 _ (by kernel_rfl) rfl rfl
                have hg_ : a_.eval (.tmp 88) = .bool false := hk_.got 2 88 _ (by kernel_rfl) rfl rfl
                have hy_ := hk_.want 2 _ 88 false rfl rfl hg_
                have hx_ := hk_.ext
                clear hk_
                refine flow_want rfl hy_ ?_
                unfold gives
                have hc_ : ∀ v, a_.eval (.const v) = v := fun _ => rfl
                have hn_ : ∀ f, a_.eval (.func f) = .func (.func f) #[] #[] := fun _ => rfl
                clear hy_ hg_
                generalize a_.eval = ρ_ at *
                go_simp
                exact ⟨Below.refl _ _, rfl⟩
              refine allFrom_cons ?_ ?_
              · intro a_ w_ hk_
                have h90 : a_.eval (.tmp 90) = (.int .i64 256) := hk_.got 4 90 _ (by kernel_rfl) rfl rfl
                have hg_ : a_.eval (.tmp 88) = .bool false := hk_.got 2 88 _ (by kernel_rfl) rfl rfl
                have hy_ := hk_.want 2 _ 88 false rfl rfl hg_
                have hx_ := hk_.ext
                clear hk_
                refine flow_want rfl hy_ ?_
                unfold gives
                have hc_ : ∀ v, a_.eval (.const v) = v := fun _ => rfl
                have hn_ : ∀ f, a_.eval (.func f) = .func (.func f) #[] #[] := fun _ => rfl
                clear hy_ hg_
                generalize a_.eval = ρ_ at *
                go_simp
                exact ⟨Below.refl _ _, rfl⟩
              refine allFrom_cons ?_ ?_
              · intro a_ w_ hk_
                have h88 : a_.eval (.tmp 88) = (.bool false) := hk_.got 2 88 _ (by kernel_rfl) rfl rfl
                have h91 : a_.eval (.tmp 91) = (.bool false) := hk_.got 5 91 _ (by kernel_rfl) rfl rfl
                have hx_ := hk_.ext
                clear hk_
                refine flow_plain rfl ?_
                exact gives_pick rfl h88 ⟨Below.refl _ _, h91⟩
              refine allFrom_cons ?_ ?_
              · intro a_ w_ hk_
                have h92 : a_.eval (.tmp 92) = (.bool false) := hk_.got 6 92 _ (by kernel_rfl) rfl rfl
                have hx_ := hk_.ext
                clear hk_
                refine flow_plain rfl ?_
                exact gives_move rfl ⟨Below.refl _ _, h92⟩
              refine allFrom_cons ?_ ?_
              · intro a_ w_ hk_
                have h12 : a_.eval (.tmp 12) = .slice (some ⟨bv, ov, none⟩) 256 cv := hk_.old 12 (by kernel_rfl)
                have hg_ : a_.eval (.tmp 93) = .bool false := hk_.got 7 93 _ (by kernel_rfl) rfl rfl
                have hy_ := hk_.want 7 _ 93 false rfl rfl hg_
                have hx_ := hk_.ext
                clear hk_
                refine flow_want rfl hy_ ?_
                exact gives_move rfl ⟨Below.refl _ _, h12⟩
              refine allFrom_cons ?_ ?_
              · intro a_ w_ hk_
                have h94 : a_.eval (.tmp 94) = (.slice (some ⟨bv, ov, none⟩) 256 cv) := hk_.got 8 94 _ (by kernel_rfl) rfl rfl
                have hg_ : a_.eval (.tmp 93) = .bool false := hk_.got 7 93 _ (by kernel_rfl) rfl rfl
                have hy_ := hk_.want 7 _ 93 false rfl rfl hg_
                have hx_ := hk_.ext
                clear hk_
                refine flow_want rfl hy_ ?_
                unfold gives
                have hc_ : ∀ v, a_.eval (.const v) = v := fun _ => rfl
                have hn_ : ∀ f, a_.eval (.func f) = .func (.func f) #[] #[] := fun _ => rfl
                clear hy_ hg_
                generalize a_.eval = ρ_ at *
                go_simp
                exact ⟨Below.refl _ _, rfl⟩
              refine allFrom_cons ?_ ?_
              · intro a_ w_ hk_
                have h95 : a_.eval (.tmp 95) = (.pointer (some ⟨bv, ov, none⟩)) := hk_.got 9 95 _ (by kernel_rfl) rfl rfl
                have hg_ : a_.eval (.tmp 93) = .bool false := hk_.got 7 93 _ (by kernel_rfl) rfl rfl
                have hy_ := hk_.want 7 _ 93 false rfl rfl hg_
                have hx_ := hk_.ext
                clear hk_
                refine flow_want rfl hy_ ?_
                unfold gives
                have hc_ : ∀ v, a_.eval (.const v) = v := fun _ => rfl
                have hn_ : ∀ f, a_.eval (.func f) = .func (.func f) #[] #[] := fun _ => rfl
                clear hy_ hg_
                have hcell := (hx_.cell (p := ⟨bv, ov, none⟩) hbvl).trans hc0v
                generalize a_.eval = ρ_ at *
                go_simp
                exact ⟨Below.refl _ _, rfl⟩
              refine allFrom_cons ?_ ?_
              · intro a_ w_ hk_
                have h8 : a_.eval (.tmp 8) = .slice (some ⟨gl, 0, none⟩) 4 4 := hk_.old 8 (by kernel_rfl)
                have hg_ : a_.eval (.tmp 93) = .bool false := hk_.got 7 93 _ (by kernel_rfl) rfl rfl
                have hy_ := hk_.want 7 _ 93 false rfl rfl hg_
                have hx_ := hk_.ext
                clear hk_
                refine flow_want rfl hy_ ?_
                exact gives_move rfl ⟨Below.refl _ _, h8⟩
              refine allFrom_cons ?_ ?_
              · intro a_ w_ hk_
                have h11 : a_.eval (.tmp 11) = .int .i64 q := hk_.old 11 (by kernel_rfl)
                have hg_ : a_.eval (.tmp 93) = .bool false := hk_.got 7 93 _ (by kernel_rfl) rfl rfl
                have hy_ := hk_.want 7 _ 93 false rfl rfl hg_
                have hx_ := hk_.ext
                clear hk_
                refine flow_want rfl hy_ ?_
                exact gives_move rfl ⟨Below.refl _ _, h11⟩
              refine allFrom_cons ?_ ?_
              · intro a_ w_ hk_
                have h97 : a_.eval (.tmp 97) = (.slice (some ⟨gl, 0, none⟩) 4 4) := hk_.got 11 97 _ (by kernel_rfl) rfl rfl
                have h98 : a_.eval (.tmp 98) = (.int .i64 q) := hk_.got 12 98 _ (by kernel_rfl) rfl rfl
                have hg_ : a_.eval (.tmp 93) = .bool false := hk_.got 7 93 _ (by kernel_rfl) rfl rfl
                have hy_ := hk_.want 7 _ 93 false rfl rfl hg_
                have hx_ := hk_.ext
                clear hk_
                refine flow_want rfl hy_ ?_
                unfold gives
                have hc_ : ∀ v, a_.eval (.const v) = v := fun _ => rfl
                have hn_ : ∀ f, a_.eval (.func f) = .func (.func f) #[] #[] := fun _ => rfl
                clear hy_ hg_
                generalize a_.eval = ρ_ at *
                go_simp
                exact ⟨Below.refl _ _, rfl⟩
              refine allFrom_cons ?_ ?_
              · intro a_ w_ hk_
                have h99 : a_.eval (.tmp 99) = (.pointer (some ⟨gl, q, none⟩)) := hk_.got 13 99 _ (by kernel_rfl) rfl rfl
                have hg_ : a_.eval (.tmp 93) = .bool false := hk_.got 7 93 _ (by kernel_rfl) rfl rfl
                have hy_ := hk_.want 7 _ 93 false rfl rfl hg_
                have hx_ := hk_.ext
                clear hk_
                refine flow_want rfl hy_ ?_
                unfold gives
                have hc_ : ∀ v, a_.eval (.const v) = v := fun _ => rfl
                have hn_ : ∀ f, a_.eval (.func f) = .func (.func f) #[] #[] := fun _ => rfl
                clear hy_ hg_
                have hcell := (hx_.cell (p := ⟨gl, q, none⟩) hgl9).trans hcl
                generalize a_.eval = ρ_ at *
                go_simp
                exact ⟨Below.refl _ _, rfl⟩
              refine allFrom_cons ?_ ?_
              · intro a_ w_ hk_
                have h96 : a_.eval (.tmp 96) = (.int .u8 (x.toNat : Int)) := hk_.got 10 96 _ (by kernel_rfl) rfl rfl
                have h100 : a_.eval (.tmp 100) = (.int .u8 (x.toNat : Int)) := hk_.got 14 100 _ (by kernel_rfl) rfl rfl
                have hg_ : a_.eval (.tmp 93) = .bool false := hk_.got 7 93 _ (by kernel_rfl) rfl rfl
                have hy_ := hk_.want 7 _ 93 false rfl rfl hg_
                have hx_ := hk_.ext
                clear hk_
                refine flow_want rfl hy_ ?_
                unfold gives
                have hc_ : ∀ v, a_.eval (.const v) = v := fun _ => rfl
                have hn_ : ∀ f, a_.eval (.func f) = .func (.func f) #[] #[] := fun _ => rfl
                clear hy_ hg_
                generalize a_.eval = ρ_ at *
                go_simp
                exact ⟨Below.refl _ _, rfl⟩
              refine allFrom_cons ?_ ?_
              · intro a_ w_ hk_
                have h93 : a_.eval (.tmp 93) = (.bool false) := hk_.got 7 93 _ (by kernel_rfl) rfl rfl
                have h101 : a_.eval (.tmp 101) = (.bool false) := hk_.got 15 101 _ (by kernel_rfl) rfl rfl
                have hx_ := hk_.ext
                clear hk_
                refine flow_plain rfl ?_
                exact gives_pick rfl h93 ⟨Below.refl _ _, h101⟩
              refine allFrom_cons ?_ ?_
              · intro a_ w_ hk_
                have h102 : a_.eval (.tmp 102) = (.bool false) := hk_.got 16 102 _ (by kernel_rfl) rfl rfl
                have hx_ := hk_.ext
                clear hk_
                refine flow_plain rfl ?_
                exact gives_move rfl ⟨Below.refl _ _, h102⟩
              refine allFrom_cons ?_ ?_
              · intro a_ w_ hk_
                have h12 : a_.eval (.tmp 12) = .slice (some ⟨bv, ov, none⟩) 256 cv := hk_.old 12 (by kernel_rfl)
                have hg_ : a_.eval (.tmp 103) = .bool false := hk_.got 17 103 _ (by kernel_rfl) rfl rfl
                have hy_ := hk_.want 17 _ 103 false rfl rfl hg_
                have hx_ := hk_.ext
                clear hk_
                refine flow_want rfl hy_ ?_
                exact gives_move rfl ⟨Below.refl _ _, h12⟩
              refine allFrom_cons ?_ ?_
              · intro a_ w_ hk_
                have h104 : a_.eval (.tmp 104) = (.slice (some ⟨bv, ov, none⟩) 256 cv) := hk_.got 18 104 _ (by kernel_rfl) rfl rfl
                have hg_ : a_.eval (.tmp 103) = .bool false := hk_.got 17 103 _ (by kernel_rfl) rfl rfl
                have hy_ := hk_.want 17 _ 103 false rfl rfl hg_
                have hx_ := hk_.ext
                clear hk_
                refine flow_want rfl hy_ ?_
                unfold gives
                have hc_ : ∀ v, a_.eval (.const v) = v := fun _ => rfl
                have hn_ : ∀ f, a_.eval (.func f) = .func (.func f) #[] #[] := fun _ => rfl
                clear hy_ hg_
                generalize a_.eval = ρ_ at *
                go_simp
                exact ⟨Below.refl _ _, rfl⟩
              refine allFrom_cons ?_ ?_
              · intro a_ w_ hk_
                have h105 : a_.eval (.tmp 105) = (.pointer (some ⟨bv, ov + 255, none⟩)) := hk_.got 19 105 _ (by kernel_rfl) rfl rfl
                have hg_ : a_.eval (.tmp 103) = .bool false := hk_.got 17 103 _ (by kernel_rfl) rfl rfl
                have hy_ := hk_.want 17 _ 103 false rfl rfl hg_
                have hx_ := hk_.ext
                clear hk_
                refine flow_want rfl hy_ ?_
                unfold gives
                have hc_ : ∀ v, a_.eval (.const v) = v := fun _ => rfl
                have hn_ : ∀ f, a_.eval (.func f) = .func (.func f) #[] #[] := fun _ => rfl
                clear hy_ hg_
                have hcell := (hx_.cell (p := ⟨bv, ov + 255, none⟩) hbvl).trans hc255
                generalize a_.eval = ρ_ at *
                go_simp
                exact ⟨Below.refl _ _, rfl⟩
              refine allFrom_cons ?_ ?_
              · intro a_ w_ hk_
                have h8 : a_.eval (.tmp 8) = .slice (some ⟨gl, 0, none⟩) 4 4 := hk_.old 8 (by kernel_rfl)
                have hg_ : a_.eval (.tmp 103) = .bool false := hk_.got 17 103 _ (by kernel_rfl) rfl rfl
                have hy_ := hk_.want 17 _ 103 false rfl rfl hg_
                have hx_ := hk_.ext
                clear hk_
                refine flow_want rfl hy_ ?_
                exact gives_move rfl ⟨Below.refl _ _, h8⟩
              refine allFrom_cons ?_ ?_
              · intro a_ w_ hk_
                have h11 : a_.eval (.tmp 11) = .int .i64 q := hk_.old 11 (by kernel_rfl)
                have hg_ : a_.eval (.tmp 103) = .bool false := hk_.got 17 103 _ (by kernel_rfl) rfl rfl
                have hy_ := hk_.want 17 _ 103 false rfl rfl hg_
                have hx_ := hk_.ext
                clear hk_
                refine flow_want rfl hy_ ?_
                exact gives_move rfl ⟨Below.refl _ _, h11⟩
              refine allFrom_cons ?_ ?_
              · intro a_ w_ hk_
                have h107 : a_.eval (.tmp 107) = (.slice (some ⟨gl, 0, none⟩) 4 4) := hk_.got 21 107 _ (by kernel_rfl) rfl rfl
                have h108 : a_.eval (.tmp 108) = (.int .i64 q) := hk_.got 22 108 _ (by kernel_rfl) rfl rfl
                have hg_ : a_.eval (.tmp 103) = .bool false := hk_.got 17 103 _ (by kernel_rfl) rfl rfl
                have hy_ := hk_.want 17 _ 103 false rfl rfl hg_
                have hx_ := hk_.ext
                clear hk_
                refine flow_want rfl hy_ ?_
                unfold gives
                have hc_ : ∀ v, a_.eval (.const v) = v := fun _ => rfl
                have hn_ : ∀ f, a_.eval (.func f) = .func (.func f) #[] #[] := fun _ => rfl
                clear hy_ hg_
                generalize a_.eval = ρ_ at *
                go_simp
                exact ⟨Below.refl _ _, rfl⟩
              refine allFrom_cons ?_ ?_
              · intro a_ w_ hk_
                have h109 : a_.eval (.tmp 109) = (.pointer (some ⟨gl, q, none⟩)) := hk_.got 23 109 _ (by kernel_rfl) rfl rfl
                have hg_ : a_.eval (.tmp 103) = .bool false := hk_.got 17 103 _ (by kernel_rfl) rfl rfl
                have hy_ := hk_.want 17 _ 103 false rfl rfl hg_
                have hx_ := hk_.ext
                clear hk_
                refine flow_want rfl hy_ ?_
                unfold gives
                have hc_ : ∀ v, a_.eval (.const v) = v := fun _ => rfl
                have hn_ : ∀ f, a_.eval (.func f) = .func (.func f) #[] #[] := fun _ => rfl
                clear hy_ hg_
                have hcell := (hx_.cell (p := ⟨gl, q, none⟩) hgl9).trans hcl
                generalize a_.eval = ρ_ at *
                go_simp
                exact ⟨Below.refl _ _, rfl⟩
              refine allFrom_cons ?_ ?_
              · intro a_ w_ hk_
                have h106 : a_.eval (.tmp 106) = (.int .u8 (x.toNat : Int)) := hk_.got 20 106 _ (by kernel_rfl) rfl rfl
                have h110 : a_.eval (.tmp 110) = (.int .u8 (x.toNat : Int)) := hk_.got 24 110 _ (by kernel_rfl) rfl rfl
                have hg_ : a_.eval (.tmp 103) = .bool false := hk_.got 17 103 _ (by kernel_rfl) rfl rfl
                have hy_ := hk_.want 17 _ 103 false rfl rfl hg_
                have hx_ := hk_.ext
                clear hk_
                refine flow_want rfl hy_ ?_
                unfold gives
                have hc_ : ∀ v, a_.eval (.const v) = v := fun _ => rfl
                have hn_ : ∀ f, a_.eval (.func f) = .func (.func f) #[] #[] := fun _ => rfl
                clear hy_ hg_
                generalize a_.eval = ρ_ at *
                go_simp
                exact ⟨Below.refl _ _, rfl⟩
              exact allFrom_nil
            intro f_ w_ hx_ hf_
            have h86 : f_ 86 = (.int .i64 0) := hf_ 0 86 _ (by decide) rfl rfl
            have h87 : f_ 87 = (.bool false) := hf_ 1 87 _ (by decide) rfl rfl
            have h88 : f_ 88 = (.bool false) := hf_ 2 88 _ (by decide) rfl rfl
            have h89 : f_ 89 = (.slice (some ⟨bv, ov, none⟩) 256 cv) := hf_ 3 89 _ (by decide) rfl rfl
            have h90 : f_ 90 = (.int .i64 256) := hf_ 4 90 _ (by decide) rfl rfl
            have h91 : f_ 91 = (.bool false) := hf_ 5 91 _ (by decide) rfl rfl
            have h92 : f_ 92 = (.bool false) := hf_ 6 92 _ (by decide) rfl rfl
            have h93 : f_ 93 = (.bool false) := hf_ 7 93 _ (by decide) rfl rfl
            have h94 : f_ 94 = (.slice (some ⟨bv, ov, none⟩) 256 cv) := hf_ 8 94 _ (by decide) rfl rfl
            have h95 : f_ 95 = (.pointer (some ⟨bv, ov, none⟩)) := hf_ 9 95 _ (by decide) rfl rfl
            have h96 : f_ 96 = (.int .u8 (x.toNat : Int)) := hf_ 10 96 _ (by decide) rfl rfl
            have h97 : f_ 97 = (.slice (some ⟨gl, 0, none⟩) 4 4) := hf_ 11 97 _ (by decide) rfl rfl
            have h98 : f_ 98 = (.int .i64 q) := hf_ 12 98 _ (by decide) rfl rfl
            have h99 : f_ 99 = (.pointer (some ⟨gl, q, none⟩)) := hf_ 13 99 _ (by decide) rfl rfl
            have h100 : f_ 100 = (.int .u8 (x.toNat : Int)) := hf_ 14 100 _ (by decide) rfl rfl
            have h101 : f_ 101 = (.bool false) := hf_ 15 101 _ (by decide) rfl rfl
            have h102 : f_ 102 = (.bool false) := hf_ 16 102 _ (by decide) rfl rfl
            have h103 : f_ 103 = (.bool false) := hf_ 17 103 _ (by decide) rfl rfl
            have h104 : f_ 104 = (.slice (some ⟨bv, ov, none⟩) 256 cv) := hf_ 18 104 _ (by decide) rfl rfl
            have h105 : f_ 105 = (.pointer (some ⟨bv, ov + 255, none⟩)) := hf_ 19 105 _ (by decide) rfl rfl
            have h106 : f_ 106 = (.int .u8 (x.toNat : Int)) := hf_ 20 106 _ (by decide) rfl rfl
            have h107 : f_ 107 = (.slice (some ⟨gl, 0, none⟩) 4 4) := hf_ 21 107 _ (by decide) rfl rfl
            have h108 : f_ 108 = (.int .i64 q) := hf_ 22 108 _ (by decide) rfl rfl
            have h109 : f_ 109 = (.pointer (some ⟨gl, q, none⟩)) := hf_ 23 109 _ (by decide) rfl rfl
            have h110 : f_ 110 = (.int .u8 (x.toNat : Int)) := hf_ 24 110 _ (by decide) rfl rfl
            have h111 : f_ 111 = (.bool false) := hf_ 25 111 _ (by decide) rfl rfl
            simp only [mix, List.drop_succ_cons, List.drop_zero, h86, h87, h88, h89, h90, h91, h92, h93, h94, h95, h96, h97, h98, h99, h100, h101, h102, h103, h104, h105, h106, h107, h108, h109, h110, h111]
            clear h86 h87 h88 h89 h90 h91 h92 h93 h94 h95 h96 h97 h98 h99 h100 h101 h102 h103 h104 h105 h106 h107 h108 h109 h110 h111
            clear hf_
            go_wp2
            have hgg := HGG.out
            subst hgg
            go_roundw
            case rel => exact ⟨q + 1, by omega, by go_num, bx_trans HB9.out hx_⟩
            case measure => simp [intOf]; omega
          · obtain rfl : q = 4 := by omega
            have hfin : Below w.heap.size w wr := hb7.trans (hbq.mono hb7.size)
            go_wp2
            go_roundw
            case rel => exact ⟨k + 1, _, _, by omega, by go_num, hdq, HL.out, HL2.out, hblkq, hfin⟩
            case measure => simp [intOf]; omega
    · go_wp2
      go_ret
      exact ⟨rfl, hbr⟩
end Go.Proofs.Ytnbjoebdbbhbkaa
