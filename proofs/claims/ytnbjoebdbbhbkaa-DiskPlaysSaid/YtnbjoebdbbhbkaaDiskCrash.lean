
/- The disk's Crash. -/
import Derived.Test.YtnbjoebdbbhbkaaDiskSync
import Derived.Laws.CopyOwn
namespace Go.Proofs.Ytnbjoebdbbhbkaa
open Go.RowKit
set_option linter.unusedVariables false

def frontN (y : UInt8) : Nat := if y.toNat = 255 then 256 else y.toNat
theorem frontN_le (y : UInt8) : frontN y ≤ 256 := by unfold frontN; have := y.toNat_lt; split <;> omega
def mixB (l old : List UInt8) (n : Nat) : List UInt8 := l.take n ++ old.drop n
theorem mixB_length {l old : List UInt8} {n : Nat} (h : l.length = 256) (ho : old.length = 256) (hn : n ≤ 256) : (mixB l old n).length = 256 := by unfold mixB; simp; omega
def crash1 (f : Int → Option (List UInt8)) (z : (Int × List UInt8) × UInt8) : Int → Option (List UInt8) := putG f z.1.1 (mixB z.1.2 ((f z.1.1).getD zeros) (frontN z.2))
def crashG (f : Int → Option (List UInt8)) (ls : List ((Int × List UInt8) × UInt8)) : Int → Option (List UInt8) := ls.foldl crash1 f
theorem crashG_snoc (f : Int → Option (List UInt8)) (ls : List ((Int × List UInt8) × UInt8)) (z : (Int × List UInt8) × UInt8) : crashG f (ls ++ [z]) = crash1 (crashG f ls) z := by simp [crashG]
def crashD (D : DS) (front : List UInt8) : DS := { D with good := crashG D.good (D.loose.zip front), loose := [], fails := -1, dead := false }
theorem gives_lookI {P : Program} {o : Oper} {a : Act} {w : World} {S : Value → World → Prop} {t kt et m : Nat} {f : Int → Option Value} (x y : Operand) (ho : o.op = .lookup t x y false) (k : Int) (hx : a.eval x = .map (some m)) (hy : a.eval y = .int .i64 k)
    (ht : P.underlying t = some (.map kt et)) (hk : P.underlying kt = some (.int .i64)) {z : Value} (hz : ∀ w, (zeroValue et).run P w = .ok z w) (hm : IMap w m f) (v : Value) (hv : (f k).getD z = v) (h : S v w) : gives P o a w S := by
  refine gives_val (v := v) (w' := w) ?_ h
  subst hv
  unfold execOp
  simp only [ho, hx, hy, Sem.run_bind, run_lookI ht hk hz hm k, Result.andThen_ok, Sem.run_pure]
theorem gives_alloc {P : Program} {o : Oper} {a : Act} {w : World} {S : Value → World → Prop} (e : TypeId) (ho : o.op = .alloc e) {z : Value} (hz : ZeroT P e z) (h : S (.pointer (some ⟨w.heap.size, 0, none⟩)) (w.alloc (.cells z.cells e))) : gives P o a w S :=
  gives_val (gives_alloc_run e ho hz) h
theorem splice_mix {l old : List UInt8} {n : Nat} (h : l.length = 256) (ho : old.length = 256) (hn : n ≤ 256) : splice (old.map cb) 0 ((l.take n).map cb) = (mixB l old n).map cb := by
  unfold splice mixB
  simp [List.map_drop, h, Nat.min_eq_left hn]
theorem Put.trans {a b c : World} {g : Nat} {t : TypeId} {x y : Array Value} (h : Put a b g t x) (h' : Put b c g t y) : Put a c g t y :=
  ⟨h'.blk, fun k hk => (h'.oth k hk).trans (h.oth k hk), h'.size.trans h.size, h'.os.trans h.os, h'.tape.trans h.tape, h'.output.trans h.output⟩
theorem size8 : ((Try.prog).info? 5).map (·.size) = some 1 := by kernel_rfl
set_option maxRecDepth 100000 in
set_option maxHeartbeats 2000000 in
/-- **Crash**. -/
theorem Crash_any (w : World) {B g : Nat} {D : DS} (h : IsDisk w B g D) {A1 : Option Addr} {c1 B' : Nat} {front : List UInt8} (hf : Kp B w B' A1 (front.map cb)) (hB' : B' ≤ w.heap.size) (hfl : front.length ≤ maxLen) :
    Calls Try.prog 13 #[.pointer (some ⟨g, 0, none⟩), .slice A1 front.length c1] w fun e w' => e = .returned (.tuple #[]) ∧ IsDisk w' B g (crashD D front) ∧ DFr B w w' := by
  unfold maxLen at hfl
  obtain ⟨m, A, c, hE⟩ := h
  have c2 := hE.c2
  have hrm : D.loose.length ≤ 1000000 := hE.ok.room
  have HLV := hid hE.ok.l256
  have h0 : IsD w B g (withG D (crashG D.good ((D.loose.zip front).take 0))) m A c := hE
  clear hE
  go_enter Try.func13, Try.ntmps13
  go_wp2
  clear c2
  go_loopw [15] (fun j wr => ∃ k : Nat, k ≤ D.loose.length ∧ k ≤ front.length ∧ j = .int .i64 k ∧ IsD wr B g (withG D (crashG D.good ((D.loose.zip front).take k))) m A c ∧ DFr B w wr) (fun j _ => D.loose.length - (intOf j).toNat)
  case atStart => exact ⟨0, by omega, by omega, rfl, h0, DFr.refl _ _⟩
  case round =>
    obtain ⟨k, hk, hkf, rfl, hK, hfk⟩ := hrel
    clear h0
    by_cases hlt : k < D.loose.length
    · have hx := HLV.out _ (List.getElem_mem hlt)
      have hget := lcells_get D.loose HLV.out k hlt
      obtain ⟨b, off, rfl, hbb, hcells⟩ := (own_rd hK.own).at_ (k := k * 257) (by show k * 257 < (lcells D.loose).length; rw [lcells_length _ HLV.out]; omega)
      have hcs : ∀ j v, (rec1 D.loose[k])[j]? = some v → wr.cell? ⟨b, off + k * 257 + j, none⟩ = some v := fun j v hv => by
        rw [Nat.add_assoc]
        exact hcells _ v (hget j v hv)
      have HCS := hid hcs
      clear hget hcells hcs
      by_cases hltf : k < front.length
      · obtain ⟨b1, o1, rfl, hb1, hc1⟩ := (hf wr hfk).at_ (k := k) (by simpa using hltf)
        have hcy : wr.cell? ⟨b1, o1 + k, none⟩ = some (.int .u8 (front[k].toNat : Int)) := hc1 k _ (by simp [hltf, cb])
        have hb1w : b1 < wr.heap.size := by have := hfk.below.size; omega
        have hsn : crashG D.good ((D.loose.zip front).take (k + 1)) = crash1 (crashG D.good ((D.loose.zip front).take k)) (D.loose[k], front[k]) := by
          rw [List.take_succ_eq_append_getElem (by simp; omega), crashG_snoc]
          simp
        have HSN := hid hsn
        have HK := hid hK
        have HFK := hid hfk
        have HF := hid hf
        have hgB := hK.gB
        have hgs := hK.blk.lt
        clear hfk hc1 hsn hf
        have hy8 := front[k].toNat_lt
        have hfn : frontN front[k] = if front[k].toNat = 255 then 256 else front[k].toNat := rfl
        have hfle := frontN_le front[k]
        generalize front[k] = y at *
        generalize D.loose[k] = x at *
        have hszr : 0 + (rec1 x).toArray.size ≤ zLoose.cells.size := by rw [zLoose_eq', List.size_toArray, recSize hx, List.size_toArray, recSize zeros_length]; omega
        have hol : (((crashG D.good ((D.loose.zip front).take k)) x.1).getD zeros).length = 256 := goodAt_length hK.ok x.1
        have hgv : ((((crashG D.good ((D.loose.zip front).take k)) x.1)).map bv).getD (bv zeros) = bv (((crashG D.good ((D.loose.zip front).take k)) x.1).getD zeros) := bv_get (D := withG D (crashG D.good ((D.loose.zip front).take k))) x.1
        have HGV := hid hgv
        clear hK hgv
        generalize hgk : crashG D.good ((D.loose.zip front).take k) = gk at *
        have HGK := hid hgk
        clear hgk
        generalize hold : (gk x.1).getD zeros = old at *
        have HOLD := hid hold
        clear hold
        generalize y.toNat = yn at *
        generalize hFN : frontN y = fn at *
        have HFN := hid hFN
        clear hFN
        by_cases hy : yn = 255
        · have hfe : fn = 256 := by rw [hfn, if_pos hy]
          have e1 : ((yn : Int) == 255) = true := by simp; omega
          subst hfe
          clear hfn hy
          go_wp2_with (first
            | (refine wpList_load_agg rfl _ _ rfl _ _ rfl (rec1 x) (aggRL hx) HCS.out ?_)
            | (refine wpList_alloc rfl _ rfl zeroLoose ?_; intro g9 w3 hg9 hg9' hblk9 hb9)
            | (refine wpList_store_agg rfl _ _ _ rfl _ _ rfl _ rfl (aggR hx) hblk9 hszr (one_rec1 _) ?_; intro w4 hput4; have hb4 := bx_put hb9 hput4 hg9; have hcy4 := (hb4.cell (p := ⟨b1, o1 + k, none⟩) hb1w).trans hcy))
          have hblkr := blk_rec hx hput4
          have hc9 : w4.cell? ⟨g9, 0, none⟩ = some (.int .i64 x.1) := hblkr.cell 0
          have HK4 := hid (HK.out.below hb4)
          have h94 := hblkr.lt
          clear hblk9 hput4 hb9 hcy4
          refine wp_flow (by kernel_rfl) [0, 1, 3, 7, 0, 16, 63, 0, 255] 8 [false, false, false, false, false, false, false, true, false, false, false, false, false, false, false, false, false, false, false, false, false, false, false, false, false, false, false, false, false, false, false, true, true, true, true, true, true, true] (by kernel_rfl) (by decide) (by kernel_rfl) [FP.eq (.pointer (some ⟨g, 0, none⟩)), FP.eq (.pointer (some ⟨g, 0, none⟩)), FP.eq (.pointer (some ⟨g, 1, none⟩)), FP.eq (.map (some m)), FP.eq (.pointer (some ⟨g9, 0, none⟩)), FP.eq (.int .i64 x.1), FP.eq (bv old), FP.new w4.heap.size 61 (zeros.map cb).toArray] ?_ ?_
          · refine allFrom_cons ?_ ?_
            · intro a_ w_ hk_
              have h0 : a_.eval (.tmp 0) = .pointer (some ⟨g, 0, none⟩) := hk_.old 0 (by kernel_rfl)
              have hx_ := hk_.ext
              clear hk_
              refine flow_plain rfl ?_
              exact gives_move rfl ⟨Below.refl _ _, h0⟩
            refine allFrom_cons ?_ ?_
            · intro a_ w_ hk_
              have h31 : a_.eval (.tmp 31) = (.pointer (some ⟨g, 0, none⟩)) := hk_.got 0 31 _ (by kernel_rfl) rfl rfl
              have hx_ := hk_.ext
              clear hk_
              refine flow_plain rfl ?_
              unfold gives
              have hc_ : ∀ v, a_.eval (.const v) = v := fun _ => rfl
              have hn_ : ∀ f, a_.eval (.func f) = .func (.func f) #[] #[] := fun _ => rfl
              generalize a_.eval = ρ_ at *
              go_simp
              exact ⟨Below.refl _ _, rfl⟩
            refine allFrom_cons ?_ ?_
            · intro a_ w_ hk_
              have h32 : a_.eval (.tmp 32) = (.pointer (some ⟨g, 0, none⟩)) := hk_.got 1 32 _ (by kernel_rfl) rfl rfl
              have hx_ := hk_.ext
              clear hk_
              refine flow_plain rfl ?_
              unfold gives
              have hc_ : ∀ v, a_.eval (.const v) = v := fun _ => rfl
              have hn_ : ∀ f, a_.eval (.func f) = .func (.func f) #[] #[] := fun _ => rfl
              generalize a_.eval = ρ_ at *
              go_simp
              exact ⟨Below.refl _ _, rfl⟩
            refine allFrom_cons ?_ ?_
            · intro a_ w_ hk_
              have h33 : a_.eval (.tmp 33) = (.pointer (some ⟨g, 1, none⟩)) := hk_.got 2 33 _ (by kernel_rfl) rfl rfl
              have hx_ := hk_.ext
              clear hk_
              refine flow_plain rfl ?_
              unfold gives
              have hc_ : ∀ v, a_.eval (.const v) = v := fun _ => rfl
              have hn_ : ∀ f, a_.eval (.func f) = .func (.func f) #[] #[] := fun _ => rfl
              have hcell := (HK4.out.below hx_).c1
              generalize a_.eval = ρ_ at *
              go_simp
              exact ⟨Below.refl _ _, rfl⟩
            refine allFrom_cons ?_ ?_
            · intro a_ w_ hk_
              have h5 : a_.eval (.tmp 5) = .pointer (some ⟨g9, 0, none⟩) := hk_.old 5 (by kernel_rfl)
              have hx_ := hk_.ext
              clear hk_
              refine flow_plain rfl ?_
              unfold gives
              have hc_ : ∀ v, a_.eval (.const v) = v := fun _ => rfl
              have hn_ : ∀ f, a_.eval (.func f) = .func (.func f) #[] #[] := fun _ => rfl
              generalize a_.eval = ρ_ at *
              go_simp
              exact ⟨Below.refl _ _, rfl⟩
            refine allFrom_cons ?_ ?_
            · intro a_ w_ hk_
              have h35 : a_.eval (.tmp 35) = (.pointer (some ⟨g9, 0, none⟩)) := hk_.got 4 35 _ (by kernel_rfl) rfl rfl
              have hx_ := hk_.ext
              clear hk_
              refine flow_plain rfl ?_
              unfold gives
              have hc_ : ∀ v, a_.eval (.const v) = v := fun _ => rfl
              have hn_ : ∀ f, a_.eval (.func f) = .func (.func f) #[] #[] := fun _ => rfl
              have hcell := (hx_.cell (p := ⟨g9, 0, none⟩) h94).trans hc9
              generalize a_.eval = ρ_ at *
              go_simp
              exact ⟨Below.refl _ _, rfl⟩
            refine allFrom_cons ?_ ?_
            · intro a_ w_ hk_
              have h34 : a_.eval (.tmp 34) = (.map (some m)) := hk_.got 3 34 _ (by kernel_rfl) rfl rfl
              have h36 : a_.eval (.tmp 36) = (.int .i64 x.1) := hk_.got 5 36 _ (by kernel_rfl) rfl rfl
              have hx_ := hk_.ext
              clear hk_
              refine flow_plain rfl ?_
              exact gives_lookI _ _ rfl x.1 h34 h36 Try.underlying56 Try.underlying3 zeroBlock (HK4.out.below hx_).map _ HGV.out ⟨Below.refl _ _, rfl⟩
            refine allFrom_cons ?_ ?_
            · intro a_ w_ hk_
              have hx_ := hk_.ext
              clear hk_
              refine flow_plain rfl ?_
              exact gives_alloc _ rfl zeroBlock (new_new hx_.size)
            exact allFrom_nil
          intro f_ w_ hx_ hf_
          have h31 : f_ 31 = (.pointer (some ⟨g, 0, none⟩)) := hf_ 0 31 _ (by decide) rfl rfl
          have h32 : f_ 32 = (.pointer (some ⟨g, 0, none⟩)) := hf_ 1 32 _ (by decide) rfl rfl
          have h33 : f_ 33 = (.pointer (some ⟨g, 1, none⟩)) := hf_ 2 33 _ (by decide) rfl rfl
          have h34 : f_ 34 = (.map (some m)) := hf_ 3 34 _ (by decide) rfl rfl
          have h35 : f_ 35 = (.pointer (some ⟨g9, 0, none⟩)) := hf_ 4 35 _ (by decide) rfl rfl
          have h36 : f_ 36 = (.int .i64 x.1) := hf_ 5 36 _ (by decide) rfl rfl
          have h37 : f_ 37 = (bv old) := hf_ 6 37 _ (by decide) rfl rfl
          have h7 : (FP.new w4.heap.size 61 (zeros.map cb).toArray).p (f_ 7) w_ := hf_ 7 7 _ (by decide) rfl rfl
          simp only [mix, List.drop_succ_cons, List.drop_zero, h31, h32, h33, h34, h35, h36, h37]
          clear h31 h32 h33 h34 h35 h36 h37
          clear hf_
          obtain ⟨g7, h7, hg7, hblk7⟩ := h7
          rw [h7]
          have hK7 := HK4.out.below hx_
          have hblkr7 := hblkr.below hx_ hblkr.lt
          have hb7 := bx_trans hb4 hx_
          have h97 : g9 < g7 := by omega
          have hszo : 0 + (old.map cb).toArray.size ≤ ((zeros.map cb).toArray).size := by rw [blkSize hol, blkSize zeros_length]; omega
          clear hx_ hblkr h7 HK4 hc9
          go_wp2_with (refine wpList_store_agg rfl _ _ _ rfl _ _ rfl (old.map cb).toArray rfl (aggB hol) hblk7 hszo (one_bv _) ?_; intro w5 hput5)
          have hblk5 : Blk w5 g7 61 (old.map cb).toArray := by
            have := hput5.blk
            rwa [spl_b zeros_length hol] at this
          have hblkr5 := hput5.other hblkr7 (show g9 ≠ g7 by omega)
          have hK5 := hK7
          have hb5 := bx_put hb7 hput5 (by have := hb4.size; omega)
          have HK5 := hid (HK.out.below hb5)
          have hg5 := hblk5.lt
          have h95 := hblkr5.lt
          have hg7w : wr.heap.size ≤ g7 := by have := hb4.size; omega
          clear hput5 hblk7 hblkr7 hK5 hK7 hb7
          refine wp_flow (by kernel_rfl) [0, 1, 0, 0, 12, 31] 5 [false, false, false, false, false, false, false, false, false, false, false, false, false, false, false, false, false, false, false, false, false, false, false, false, false, false, false, false, false, false, false, false, false, false, false, false, false, false, true, true, true, true, true, false] (by kernel_rfl) (by decide) (by kernel_rfl) [FP.eq (.int .i64 256), FP.eq (.slice (some ⟨g7, 0, none⟩) 256 256), FP.eq (.pointer (some ⟨g9, 1, none⟩)), FP.eq (.int .i64 256), FP.eq (.slice (some ⟨g9, 1, none⟩) 256 256)] ?_ ?_
          · refine allFrom_cons ?_ ?_
            · intro a_ w_ hk_
              have h6 : a_.eval (.tmp 6) = .int .i64 256 := hk_.old 6 (by kernel_rfl)
              have hx_ := hk_.ext
              clear hk_
              refine flow_plain rfl ?_
              exact gives_move rfl ⟨Below.refl _ _, h6⟩
            refine allFrom_cons ?_ ?_
            · intro a_ w_ hk_
              have h7 : a_.eval (.tmp 7) = .pointer (some ⟨g7, 0, none⟩) := hk_.old 7 (by kernel_rfl)
              have h38 : a_.eval (.tmp 38) = (.int .i64 256) := hk_.got 0 38 _ (by kernel_rfl) rfl rfl
              have hx_ := hk_.ext
              clear hk_
              refine flow_plain rfl ?_
              unfold gives
              have hc_ : ∀ v, a_.eval (.const v) = v := fun _ => rfl
              have hn_ : ∀ f, a_.eval (.func f) = .func (.func f) #[] #[] := fun _ => rfl
              generalize a_.eval = ρ_ at *
              go_simp
              exact ⟨Below.refl _ _, rfl⟩
            refine allFrom_cons ?_ ?_
            · intro a_ w_ hk_
              have h5 : a_.eval (.tmp 5) = .pointer (some ⟨g9, 0, none⟩) := hk_.old 5 (by kernel_rfl)
              have hx_ := hk_.ext
              clear hk_
              refine flow_plain rfl ?_
              unfold gives
              have hc_ : ∀ v, a_.eval (.const v) = v := fun _ => rfl
              have hn_ : ∀ f, a_.eval (.func f) = .func (.func f) #[] #[] := fun _ => rfl
              generalize a_.eval = ρ_ at *
              go_simp
              exact ⟨Below.refl _ _, rfl⟩
            refine allFrom_cons ?_ ?_
            · intro a_ w_ hk_
              have h6 : a_.eval (.tmp 6) = .int .i64 256 := hk_.old 6 (by kernel_rfl)
              have hx_ := hk_.ext
              clear hk_
              refine flow_plain rfl ?_
              exact gives_move rfl ⟨Below.refl _ _, h6⟩
            refine allFrom_cons ?_ ?_
            · intro a_ w_ hk_
              have h40 : a_.eval (.tmp 40) = (.pointer (some ⟨g9, 1, none⟩)) := hk_.got 2 40 _ (by kernel_rfl) rfl rfl
              have h41 : a_.eval (.tmp 41) = (.int .i64 256) := hk_.got 3 41 _ (by kernel_rfl) rfl rfl
              have hx_ := hk_.ext
              clear hk_
              refine flow_plain rfl ?_
              unfold gives
              have hc_ : ∀ v, a_.eval (.const v) = v := fun _ => rfl
              have hn_ : ∀ f, a_.eval (.func f) = .func (.func f) #[] #[] := fun _ => rfl
              generalize a_.eval = ρ_ at *
              go_simp
              exact ⟨Below.refl _ _, rfl⟩
            exact allFrom_nil
          intro f_ w_ hx_ hf_
          have h38 : f_ 38 = (.int .i64 256) := hf_ 0 38 _ (by decide) rfl rfl
          have h39 : f_ 39 = (.slice (some ⟨g7, 0, none⟩) 256 256) := hf_ 1 39 _ (by decide) rfl rfl
          have h40 : f_ 40 = (.pointer (some ⟨g9, 1, none⟩)) := hf_ 2 40 _ (by decide) rfl rfl
          have h41 : f_ 41 = (.int .i64 256) := hf_ 3 41 _ (by decide) rfl rfl
          have h42 : f_ 42 = (.slice (some ⟨g9, 1, none⟩) 256 256) := hf_ 4 42 _ (by decide) rfl rfl
          simp only [mix, List.drop_succ_cons, List.drop_zero, h38, h39, h40, h41, h42]
          clear h38 h39 h40 h41 h42
          clear hf_
          have hblk6 := hblk5.below hx_ hg5
          have hblkr6 := hblkr5.below hx_ h95
          have hcr6 := rec_body hblkr6
          have hb6 := bx_trans hb5 hx_
          have hln : ((x.2.take 256).map cb).length = Nat.min 256 256 := by show _ = min 256 256; simp; omega
          have hpos6 : 0 < ((x.2.take 256).map cb).length → (some (⟨g7, 0, none⟩ : Addr)) = some ⟨g7, 0, none⟩ ∧ ∃ ad, (some (⟨g9, 1, none⟩ : Addr)) = some ad ∧ ∀ j v, ((x.2.take 256).map cb)[j]? = some v → w_.cell? (ad.add j) = some v := fun _ => ⟨rfl, _, rfl, fun j v hv => by
            rw [add_off]
            refine hcr6 j v ?_
            rw [List.map_take, List.getElem?_take] at hv
            split at hv
            · exact hv
            · cases hv⟩
          have hfit : 0 + ((x.2.take 256).map cb).length ≤ (old.map cb).length := by simp; omega
          clear hx_ hblk5 hblkr5 hb5
          go_wp2_with (refine wpList_copy_splice rfl _ _ _ _ rfl 5 Try.underlying22 size8 _ _ 256 256 256 256 rfl rfl g7 0 (old.map cb) 61 hblk6 ((x.2.take 256).map cb) hln hpos6 hfit (one_cb _) g7 w_ (Below.refl _ _) (Nat.le_refl _) ?_; intro w7 hblk7' hb7')
          have hb7 := hb6.trans (hb7'.mono hg7w)
          have hblk7 : Blk w7 g7 61 ((mixB x.2 old 256).map cb).toArray := by
            have := hblk7'.out
            rwa [splice_mix hx hol hfle] at this
          have HK7 := hid (HK.out.below hb7)
          have hmx := mixB_length hx hol hfle
          have hc97 : w7.cell? ⟨g9, 0, none⟩ = some (.int .i64 x.1) := (hb7'.cell (p := ⟨g9, 0, none⟩) h97).trans (hblkr6.cell 0)
          have hg7l := hblk7.lt
          clear hblk7' hblk6 hcr6 hb6 hpos6
          refine wp_flow (by kernel_rfl) [0, 1, 3, 7, 0, 16, 0, 127] 7 [false, false, false, false, false, false, false, false, false, false, false, false, false, false, false, false, false, false, false, false, false, false, false, false, false, false, false, false, false, false, false, false, false, false, false, false, false, false, false, false, false, false, false, false, true, true, true, true, true, true, true] (by kernel_rfl) (by decide) (by kernel_rfl) [FP.eq (.pointer (some ⟨g, 0, none⟩)), FP.eq (.pointer (some ⟨g, 0, none⟩)), FP.eq (.pointer (some ⟨g, 1, none⟩)), FP.eq (.map (some m)), FP.eq (.pointer (some ⟨g9, 0, none⟩)), FP.eq (.int .i64 x.1), FP.eq (.agg ((mixB x.2 old 256).map cb).toArray)] ?_ ?_
          · refine allFrom_cons ?_ ?_
            · intro a_ w_ hk_
              have h0 : a_.eval (.tmp 0) = .pointer (some ⟨g, 0, none⟩) := hk_.old 0 (by kernel_rfl)
              have hx_ := hk_.ext
              clear hk_
              refine flow_plain rfl ?_
              exact gives_move rfl ⟨Below.refl _ _, h0⟩
            refine allFrom_cons ?_ ?_
            · intro a_ w_ hk_
              have h44 : a_.eval (.tmp 44) = (.pointer (some ⟨g, 0, none⟩)) := hk_.got 0 44 _ (by kernel_rfl) rfl rfl
              have hx_ := hk_.ext
              clear hk_
              refine flow_plain rfl ?_
              unfold gives
              have hc_ : ∀ v, a_.eval (.const v) = v := fun _ => rfl
              have hn_ : ∀ f, a_.eval (.func f) = .func (.func f) #[] #[] := fun _ => rfl
              generalize a_.eval = ρ_ at *
              go_simp
              exact ⟨Below.refl _ _, rfl⟩
            refine allFrom_cons ?_ ?_
            · intro a_ w_ hk_
              have h45 : a_.eval (.tmp 45) = (.pointer (some ⟨g, 0, none⟩)) := hk_.got 1 45 _ (by kernel_rfl) rfl rfl
              have hx_ := hk_.ext
              clear hk_
              refine flow_plain rfl ?_
              unfold gives
              have hc_ : ∀ v, a_.eval (.const v) = v := fun _ => rfl
              have hn_ : ∀ f, a_.eval (.func f) = .func (.func f) #[] #[] := fun _ => rfl
              generalize a_.eval = ρ_ at *
              go_simp
              exact ⟨Below.refl _ _, rfl⟩
            refine allFrom_cons ?_ ?_
            · intro a_ w_ hk_
              have h46 : a_.eval (.tmp 46) = (.pointer (some ⟨g, 1, none⟩)) := hk_.got 2 46 _ (by kernel_rfl) rfl rfl
              have hx_ := hk_.ext
              clear hk_
              refine flow_plain rfl ?_
              unfold gives
              have hc_ : ∀ v, a_.eval (.const v) = v := fun _ => rfl
              have hn_ : ∀ f, a_.eval (.func f) = .func (.func f) #[] #[] := fun _ => rfl
              have hcell := (HK7.out.below hx_).c1
              generalize a_.eval = ρ_ at *
              go_simp
              exact ⟨Below.refl _ _, rfl⟩
            refine allFrom_cons ?_ ?_
            · intro a_ w_ hk_
              have h5 : a_.eval (.tmp 5) = .pointer (some ⟨g9, 0, none⟩) := hk_.old 5 (by kernel_rfl)
              have hx_ := hk_.ext
              clear hk_
              refine flow_plain rfl ?_
              unfold gives
              have hc_ : ∀ v, a_.eval (.const v) = v := fun _ => rfl
              have hn_ : ∀ f, a_.eval (.func f) = .func (.func f) #[] #[] := fun _ => rfl
              generalize a_.eval = ρ_ at *
              go_simp
              exact ⟨Below.refl _ _, rfl⟩
            refine allFrom_cons ?_ ?_
            · intro a_ w_ hk_
              have h48 : a_.eval (.tmp 48) = (.pointer (some ⟨g9, 0, none⟩)) := hk_.got 4 48 _ (by kernel_rfl) rfl rfl
              have hx_ := hk_.ext
              clear hk_
              refine flow_plain rfl ?_
              unfold gives
              have hc_ : ∀ v, a_.eval (.const v) = v := fun _ => rfl
              have hn_ : ∀ f, a_.eval (.func f) = .func (.func f) #[] #[] := fun _ => rfl
              have hcell := (hx_.cell (p := ⟨g9, 0, none⟩) (by show g9 < w7.heap.size; omega)).trans hc97
              generalize a_.eval = ρ_ at *
              go_simp
              exact ⟨Below.refl _ _, rfl⟩
            refine allFrom_cons ?_ ?_
            · intro a_ w_ hk_
              have h7 : a_.eval (.tmp 7) = .pointer (some ⟨g7, 0, none⟩) := hk_.old 7 (by kernel_rfl)
              have hx_ := hk_.ext
              clear hk_
              refine flow_plain rfl ?_
              exact gives_load_agg _ _ rfl g7 0 h7 _ (aggBL hmx) (blk_cells (hblk7.below hx_ hg7l)) ⟨Below.refl _ _, rfl⟩
            exact allFrom_nil
          intro f_ w_ hx_ hf_
          have h44 : f_ 44 = (.pointer (some ⟨g, 0, none⟩)) := hf_ 0 44 _ (by decide) rfl rfl
          have h45 : f_ 45 = (.pointer (some ⟨g, 0, none⟩)) := hf_ 1 45 _ (by decide) rfl rfl
          have h46 : f_ 46 = (.pointer (some ⟨g, 1, none⟩)) := hf_ 2 46 _ (by decide) rfl rfl
          have h47 : f_ 47 = (.map (some m)) := hf_ 3 47 _ (by decide) rfl rfl
          have h48 : f_ 48 = (.pointer (some ⟨g9, 0, none⟩)) := hf_ 4 48 _ (by decide) rfl rfl
          have h49 : f_ 49 = (.int .i64 x.1) := hf_ 5 49 _ (by decide) rfl rfl
          have h50 : f_ 50 = (.agg ((mixB x.2 old 256).map cb).toArray) := hf_ 6 50 _ (by decide) rfl rfl
          simp only [mix, List.drop_succ_cons, List.drop_zero, h44, h45, h46, h47, h48, h49, h50]
          clear h44 h45 h46 h47 h48 h49 h50
          clear hf_
          have hKw := HK7.out.below hx_
          have hmw := hKw.map
          have hb8 := bx_trans hb7 hx_
          go_wp2_with (refine wpList_updI rfl _ _ _ rfl x.1 (bv (mixB x.2 old 256)) rfl rfl rfl Try.underlying56 Try.underlying3 hmw ?_; intro w9 hm9 ho9)
          go_roundw
          case rel =>
            have hu := hKw.upd hmx hm9 ho9
            refine ⟨k + 1, by omega, by omega, by go_num, ?_, HFK.out.trans ((DFr.of_below hb8 (by omega)).trans hu.2)⟩
            rw [HSN.out]
            have e : crash1 gk (x, y) = putG gk x.1 (mixB x.2 old 256) := by
              unfold crash1
              rw [HOLD.out, HFN.out]
            rw [e]
            exact hu.1
          case measure => simp [intOf]; omega
        · have hfe : yn = fn := by rw [hfn, if_neg hy]
          have e1 : ((yn : Int) == 255) = false := by simp; omega
          subst hfe
          clear hfn hy
          have hi0 : (0 : Int) ≤ (yn : Int) := by omega
          have hi1 : (yn : Int) ≤ 256 := by omega
          go_wp2_with (first
            | (refine wpList_load_agg rfl _ _ rfl _ _ rfl (rec1 x) (aggRL hx) HCS.out ?_)
            | (refine wpList_alloc rfl _ rfl zeroLoose ?_; intro g9 w3 hg9 hg9' hblk9 hb9)
            | (refine wpList_store_agg rfl _ _ _ rfl _ _ rfl _ rfl (aggR hx) hblk9 hszr (one_rec1 _) ?_; intro w4 hput4; have hb4 := bx_put hb9 hput4 hg9; have hcy4 := (hb4.cell (p := ⟨b1, o1 + k, none⟩) hb1w).trans hcy))
          have hblkr := blk_rec hx hput4
          have hc9 : w4.cell? ⟨g9, 0, none⟩ = some (.int .i64 x.1) := hblkr.cell 0
          have HK4 := hid (HK.out.below hb4)
          have h94 := hblkr.lt
          clear hblk9 hput4 hb9 hcy4
          refine wp_flow (by kernel_rfl) [0, 1, 3, 7, 0, 16, 63, 0, 255] 8 [false, false, false, false, false, false, false, true, false, false, false, false, false, false, false, false, false, false, false, false, false, false, false, false, false, false, false, false, false, false, false, true, true, true, true, true, true, true] (by kernel_rfl) (by decide) (by kernel_rfl) [FP.eq (.pointer (some ⟨g, 0, none⟩)), FP.eq (.pointer (some ⟨g, 0, none⟩)), FP.eq (.pointer (some ⟨g, 1, none⟩)), FP.eq (.map (some m)), FP.eq (.pointer (some ⟨g9, 0, none⟩)), FP.eq (.int .i64 x.1), FP.eq (bv old), FP.new w4.heap.size 61 (zeros.map cb).toArray] ?_ ?_
          · refine allFrom_cons ?_ ?_
            · intro a_ w_ hk_
              have h0 : a_.eval (.tmp 0) = .pointer (some ⟨g, 0, none⟩) := hk_.old 0 (by kernel_rfl)
              have hx_ := hk_.ext
              clear hk_
              refine flow_plain rfl ?_
              exact gives_move rfl ⟨Below.refl _ _, h0⟩
            refine allFrom_cons ?_ ?_
            · intro a_ w_ hk_
              have h31 : a_.eval (.tmp 31) = (.pointer (some ⟨g, 0, none⟩)) := hk_.got 0 31 _ (by kernel_rfl) rfl rfl
              have hx_ := hk_.ext
              clear hk_
              refine flow_plain rfl ?_
              unfold gives
              have hc_ : ∀ v, a_.eval (.const v) = v := fun _ => rfl
              have hn_ : ∀ f, a_.eval (.func f) = .func (.func f) #[] #[] := fun _ => rfl
              generalize a_.eval = ρ_ at *
              go_simp
              exact ⟨Below.refl _ _, rfl⟩
            refine allFrom_cons ?_ ?_
            · intro a_ w_ hk_
              have h32 : a_.eval (.tmp 32) = (.pointer (some ⟨g, 0, none⟩)) := hk_.got 1 32 _ (by kernel_rfl) rfl rfl
              have hx_ := hk_.ext
              clear hk_
              refine flow_plain rfl ?_
              unfold gives
              have hc_ : ∀ v, a_.eval (.const v) = v := fun _ => rfl
              have hn_ : ∀ f, a_.eval (.func f) = .func (.func f) #[] #[] := fun _ => rfl
              generalize a_.eval = ρ_ at *
              go_simp
              exact ⟨Below.refl _ _, rfl⟩
            refine allFrom_cons ?_ ?_
            · intro a_ w_ hk_
              have h33 : a_.eval (.tmp 33) = (.pointer (some ⟨g, 1, none⟩)) := hk_.got 2 33 _ (by kernel_rfl) rfl rfl
              have hx_ := hk_.ext
              clear hk_
              refine flow_plain rfl ?_
              unfold gives
              have hc_ : ∀ v, a_.eval (.const v) = v := fun _ => rfl
              have hn_ : ∀ f, a_.eval (.func f) = .func (.func f) #[] #[] := fun _ => rfl
              have hcell := (HK4.out.below hx_).c1
              generalize a_.eval = ρ_ at *
              go_simp
              exact ⟨Below.refl _ _, rfl⟩
            refine allFrom_cons ?_ ?_
            · intro a_ w_ hk_
              have h5 : a_.eval (.tmp 5) = .pointer (some ⟨g9, 0, none⟩) := hk_.old 5 (by kernel_rfl)
              have hx_ := hk_.ext
              clear hk_
              refine flow_plain rfl ?_
              unfold gives
              have hc_ : ∀ v, a_.eval (.const v) = v := fun _ => rfl
              have hn_ : ∀ f, a_.eval (.func f) = .func (.func f) #[] #[] := fun _ => rfl
              generalize a_.eval = ρ_ at *
              go_simp
              exact ⟨Below.refl _ _, rfl⟩
            refine allFrom_cons ?_ ?_
            · intro a_ w_ hk_
              have h35 : a_.eval (.tmp 35) = (.pointer (some ⟨g9, 0, none⟩)) := hk_.got 4 35 _ (by kernel_rfl) rfl rfl
              have hx_ := hk_.ext
              clear hk_
              refine flow_plain rfl ?_
              unfold gives
              have hc_ : ∀ v, a_.eval (.const v) = v := fun _ => rfl
              have hn_ : ∀ f, a_.eval (.func f) = .func (.func f) #[] #[] := fun _ => rfl
              have hcell := (hx_.cell (p := ⟨g9, 0, none⟩) h94).trans hc9
              generalize a_.eval = ρ_ at *
              go_simp
              exact ⟨Below.refl _ _, rfl⟩
            refine allFrom_cons ?_ ?_
            · intro a_ w_ hk_
              have h34 : a_.eval (.tmp 34) = (.map (some m)) := hk_.got 3 34 _ (by kernel_rfl) rfl rfl
              have h36 : a_.eval (.tmp 36) = (.int .i64 x.1) := hk_.got 5 36 _ (by kernel_rfl) rfl rfl
              have hx_ := hk_.ext
              clear hk_
              refine flow_plain rfl ?_
              exact gives_lookI _ _ rfl x.1 h34 h36 Try.underlying56 Try.underlying3 zeroBlock (HK4.out.below hx_).map _ HGV.out ⟨Below.refl _ _, rfl⟩
            refine allFrom_cons ?_ ?_
            · intro a_ w_ hk_
              have hx_ := hk_.ext
              clear hk_
              refine flow_plain rfl ?_
              exact gives_alloc _ rfl zeroBlock (new_new hx_.size)
            exact allFrom_nil
          intro f_ w_ hx_ hf_
          have h31 : f_ 31 = (.pointer (some ⟨g, 0, none⟩)) := hf_ 0 31 _ (by decide) rfl rfl
          have h32 : f_ 32 = (.pointer (some ⟨g, 0, none⟩)) := hf_ 1 32 _ (by decide) rfl rfl
          have h33 : f_ 33 = (.pointer (some ⟨g, 1, none⟩)) := hf_ 2 33 _ (by decide) rfl rfl
          have h34 : f_ 34 = (.map (some m)) := hf_ 3 34 _ (by decide) rfl rfl
          have h35 : f_ 35 = (.pointer (some ⟨g9, 0, none⟩)) := hf_ 4 35 _ (by decide) rfl rfl
          have h36 : f_ 36 = (.int .i64 x.1) := hf_ 5 36 _ (by decide) rfl rfl
          have h37 : f_ 37 = (bv old) := hf_ 6 37 _ (by decide) rfl rfl
          have h7 : (FP.new w4.heap.size 61 (zeros.map cb).toArray).p (f_ 7) w_ := hf_ 7 7 _ (by decide) rfl rfl
          simp only [mix, List.drop_succ_cons, List.drop_zero, h31, h32, h33, h34, h35, h36, h37]
          clear h31 h32 h33 h34 h35 h36 h37
          clear hf_
          obtain ⟨g7, h7, hg7, hblk7⟩ := h7
          rw [h7]
          have hK7 := HK4.out.below hx_
          have hblkr7 := hblkr.below hx_ hblkr.lt
          have hb7 := bx_trans hb4 hx_
          have h97 : g9 < g7 := by omega
          have hszo : 0 + (old.map cb).toArray.size ≤ ((zeros.map cb).toArray).size := by rw [blkSize hol, blkSize zeros_length]; omega
          clear hx_ hblkr h7 HK4 hc9
          go_wp2_with (refine wpList_store_agg rfl _ _ _ rfl _ _ rfl (old.map cb).toArray rfl (aggB hol) hblk7 hszo (one_bv _) ?_; intro w5 hput5)
          have hblk5 : Blk w5 g7 61 (old.map cb).toArray := by
            have := hput5.blk
            rwa [spl_b zeros_length hol] at this
          have hblkr5 := hput5.other hblkr7 (show g9 ≠ g7 by omega)
          have hK5 := hK7
          have hb5 := bx_put hb7 hput5 (by have := hb4.size; omega)
          have HK5 := hid (HK.out.below hb5)
          have hg5 := hblk5.lt
          have h95 := hblkr5.lt
          have hg7w : wr.heap.size ≤ g7 := by have := hb4.size; omega
          clear hput5 hblk7 hblkr7 hK5 hK7 hb7
          refine wp_flow (by kernel_rfl) [0, 1, 0, 0, 12, 31] 5 [false, false, false, false, false, false, false, false, false, false, false, false, false, false, false, false, false, false, false, false, false, false, false, false, false, false, false, false, false, false, false, false, false, false, false, false, false, false, true, true, true, true, true, false] (by kernel_rfl) (by decide) (by kernel_rfl) [FP.eq (.int .i64 (yn : Int)), FP.eq (.slice (some ⟨g7, 0, none⟩) yn 256), FP.eq (.pointer (some ⟨g9, 1, none⟩)), FP.eq (.int .i64 (yn : Int)), FP.eq (.slice (some ⟨g9, 1, none⟩) yn 256)] ?_ ?_
          · refine allFrom_cons ?_ ?_
            · intro a_ w_ hk_
              have h6 : a_.eval (.tmp 6) = .int .i64 (yn : Int) := hk_.old 6 (by kernel_rfl)
              have hx_ := hk_.ext
              clear hk_
              refine flow_plain rfl ?_
              exact gives_move rfl ⟨Below.refl _ _, h6⟩
            refine allFrom_cons ?_ ?_
            · intro a_ w_ hk_
              have h7 : a_.eval (.tmp 7) = .pointer (some ⟨g7, 0, none⟩) := hk_.old 7 (by kernel_rfl)
              have h38 : a_.eval (.tmp 38) = (.int .i64 (yn : Int)) := hk_.got 0 38 _ (by kernel_rfl) rfl rfl
              have hx_ := hk_.ext
              clear hk_
              refine flow_plain rfl ?_
              unfold gives
              have hc_ : ∀ v, a_.eval (.const v) = v := fun _ => rfl
              have hn_ : ∀ f, a_.eval (.func f) = .func (.func f) #[] #[] := fun _ => rfl
              generalize a_.eval = ρ_ at *
              go_simp
              exact ⟨Below.refl _ _, rfl⟩
            refine allFrom_cons ?_ ?_
            · intro a_ w_ hk_
              have h5 : a_.eval (.tmp 5) = .pointer (some ⟨g9, 0, none⟩) := hk_.old 5 (by kernel_rfl)
              have hx_ := hk_.ext
              clear hk_
              refine flow_plain rfl ?_
              unfold gives
              have hc_ : ∀ v, a_.eval (.const v) = v := fun _ => rfl
              have hn_ : ∀ f, a_.eval (.func f) = .func (.func f) #[] #[] := fun _ => rfl
              generalize a_.eval = ρ_ at *
              go_simp
              exact ⟨Below.refl _ _, rfl⟩
            refine allFrom_cons ?_ ?_
            · intro a_ w_ hk_
              have h6 : a_.eval (.tmp 6) = .int .i64 (yn : Int) := hk_.old 6 (by kernel_rfl)
              have hx_ := hk_.ext
              clear hk_
              refine flow_plain rfl ?_
              exact gives_move rfl ⟨Below.refl _ _, h6⟩
            refine allFrom_cons ?_ ?_
            · intro a_ w_ hk_
              have h40 : a_.eval (.tmp 40) = (.pointer (some ⟨g9, 1, none⟩)) := hk_.got 2 40 _ (by kernel_rfl) rfl rfl
              have h41 : a_.eval (.tmp 41) = (.int .i64 (yn : Int)) := hk_.got 3 41 _ (by kernel_rfl) rfl rfl
              have hx_ := hk_.ext
              clear hk_
              refine flow_plain rfl ?_
              unfold gives
              have hc_ : ∀ v, a_.eval (.const v) = v := fun _ => rfl
              have hn_ : ∀ f, a_.eval (.func f) = .func (.func f) #[] #[] := fun _ => rfl
              generalize a_.eval = ρ_ at *
              go_simp
              exact ⟨Below.refl _ _, rfl⟩
            exact allFrom_nil
          intro f_ w_ hx_ hf_
          have h38 : f_ 38 = (.int .i64 (yn : Int)) := hf_ 0 38 _ (by decide) rfl rfl
          have h39 : f_ 39 = (.slice (some ⟨g7, 0, none⟩) yn 256) := hf_ 1 39 _ (by decide) rfl rfl
          have h40 : f_ 40 = (.pointer (some ⟨g9, 1, none⟩)) := hf_ 2 40 _ (by decide) rfl rfl
          have h41 : f_ 41 = (.int .i64 (yn : Int)) := hf_ 3 41 _ (by decide) rfl rfl
          have h42 : f_ 42 = (.slice (some ⟨g9, 1, none⟩) yn 256) := hf_ 4 42 _ (by decide) rfl rfl
          simp only [mix, List.drop_succ_cons, List.drop_zero, h38, h39, h40, h41, h42]
          clear h38 h39 h40 h41 h42
          clear hf_
          have hblk6 := hblk5.below hx_ hg5
          have hblkr6 := hblkr5.below hx_ h95
          have hcr6 := rec_body hblkr6
          have hb6 := bx_trans hb5 hx_
          have hln : ((x.2.take yn).map cb).length = Nat.min yn yn := by show _ = min yn yn; simp; omega
          have hpos6 : 0 < ((x.2.take yn).map cb).length → (some (⟨g7, 0, none⟩ : Addr)) = some ⟨g7, 0, none⟩ ∧ ∃ ad, (some (⟨g9, 1, none⟩ : Addr)) = some ad ∧ ∀ j v, ((x.2.take yn).map cb)[j]? = some v → w_.cell? (ad.add j) = some v := fun _ => ⟨rfl, _, rfl, fun j v hv => by
            rw [add_off]
            refine hcr6 j v ?_
            rw [List.map_take, List.getElem?_take] at hv
            split at hv
            · exact hv
            · cases hv⟩
          have hfit : 0 + ((x.2.take yn).map cb).length ≤ (old.map cb).length := by simp; omega
          clear hx_ hblk5 hblkr5 hb5
          go_wp2_with (refine wpList_copy_splice rfl _ _ _ _ rfl 5 Try.underlying22 size8 _ _ yn 256 yn 256 rfl rfl g7 0 (old.map cb) 61 hblk6 ((x.2.take yn).map cb) hln hpos6 hfit (one_cb _) g7 w_ (Below.refl _ _) (Nat.le_refl _) ?_; intro w7 hblk7' hb7')
          have hb7 := hb6.trans (hb7'.mono hg7w)
          have hblk7 : Blk w7 g7 61 ((mixB x.2 old yn).map cb).toArray := by
            have := hblk7'.out
            rwa [splice_mix hx hol hfle] at this
          have HK7 := hid (HK.out.below hb7)
          have hmx := mixB_length hx hol hfle
          have hc97 : w7.cell? ⟨g9, 0, none⟩ = some (.int .i64 x.1) := (hb7'.cell (p := ⟨g9, 0, none⟩) h97).trans (hblkr6.cell 0)
          have hg7l := hblk7.lt
          clear hblk7' hblk6 hcr6 hb6 hpos6
          refine wp_flow (by kernel_rfl) [0, 1, 3, 7, 0, 16, 0, 127] 7 [false, false, false, false, false, false, false, false, false, false, false, false, false, false, false, false, false, false, false, false, false, false, false, false, false, false, false, false, false, false, false, false, false, false, false, false, false, false, false, false, false, false, false, false, true, true, true, true, true, true, true] (by kernel_rfl) (by decide) (by kernel_rfl) [FP.eq (.pointer (some ⟨g, 0, none⟩)), FP.eq (.pointer (some ⟨g, 0, none⟩)), FP.eq (.pointer (some ⟨g, 1, none⟩)), FP.eq (.map (some m)), FP.eq (.pointer (some ⟨g9, 0, none⟩)), FP.eq (.int .i64 x.1), FP.eq (.agg ((mixB x.2 old yn).map cb).toArray)] ?_ ?_
          · refine allFrom_cons ?_ ?_
            · intro a_ w_ hk_
              have h0 : a_.eval (.tmp 0) = .pointer (some ⟨g, 0, none⟩) := hk_.old 0 (by kernel_rfl)
              have hx_ := hk_.ext
              clear hk_
              refine flow_plain rfl ?_
              exact gives_move rfl ⟨Below.refl _ _, h0⟩
            refine allFrom_cons ?_ ?_
            · intro a_ w_ hk_
              have h44 : a_.eval (.tmp 44) = (.pointer (some ⟨g, 0, none⟩)) := hk_.got 0 44 _ (by kernel_rfl) rfl rfl
              have hx_ := hk_.ext
              clear hk_
              refine flow_plain rfl ?_
              unfold gives
              have hc_ : ∀ v, a_.eval (.const v) = v := fun _ => rfl
              have hn_ : ∀ f, a_.eval (.func f) = .func (.func f) #[] #[] := fun _ => rfl
              generalize a_.eval = ρ_ at *
              go_simp
              exact ⟨Below.refl _ _, rfl⟩
            refine allFrom_cons ?_ ?_
            · intro a_ w_ hk_
              have h45 : a_.eval (.tmp 45) = (.pointer (some ⟨g, 0, none⟩)) := hk_.got 1 45 _ (by kernel_rfl) rfl rfl
              have hx_ := hk_.ext
              clear hk_
              refine flow_plain rfl ?_
              unfold gives
              have hc_ : ∀ v, a_.eval (.const v) = v := fun _ => rfl
              have hn_ : ∀ f, a_.eval (.func f) = .func (.func f) #[] #[] := fun _ => rfl
              generalize a_.eval = ρ_ at *
              go_simp
              exact ⟨Below.refl _ _, rfl⟩
            refine allFrom_cons ?_ ?_
            · intro a_ w_ hk_
              have h46 : a_.eval (.tmp 46) = (.pointer (some ⟨g, 1, none⟩)) := hk_.got 2 46 _ (by kernel_rfl) rfl rfl
              have hx_ := hk_.ext
              clear hk_
              refine flow_plain rfl ?_
              unfold gives
              have hc_ : ∀ v, a_.eval (.const v) = v := fun _ => rfl
              have hn_ : ∀ f, a_.eval (.func f) = .func (.func f) #[] #[] := fun _ => rfl
              have hcell := (HK7.out.below hx_).c1
              generalize a_.eval = ρ_ at *
              go_simp
              exact ⟨Below.refl _ _, rfl⟩
            refine allFrom_cons ?_ ?_
            · intro a_ w_ hk_
              have h5 : a_.eval (.tmp 5) = .pointer (some ⟨g9, 0, none⟩) := hk_.old 5 (by kernel_rfl)
              have hx_ := hk_.ext
              clear hk_
              refine flow_plain rfl ?_
              unfold gives
              have hc_ : ∀ v, a_.eval (.const v) = v := fun _ => rfl
              have hn_ : ∀ f, a_.eval (.func f) = .func (.func f) #[] #[] := fun _ => rfl
              generalize a_.eval = ρ_ at *
              go_simp
              exact ⟨Below.refl _ _, rfl⟩
            refine allFrom_cons ?_ ?_
            · intro a_ w_ hk_
              have h48 : a_.eval (.tmp 48) = (.pointer (some ⟨g9, 0, none⟩)) := hk_.got 4 48 _ (by kernel_rfl) rfl rfl
              have hx_ := hk_.ext
              clear hk_
              refine flow_plain rfl ?_
              unfold gives
              have hc_ : ∀ v, a_.eval (.const v) = v := fun _ => rfl
              have hn_ : ∀ f, a_.eval (.func f) = .func (.func f) #[] #[] := fun _ => rfl
              have hcell := (hx_.cell (p := ⟨g9, 0, none⟩) (by show g9 < w7.heap.size; omega)).trans hc97
              generalize a_.eval = ρ_ at *
              go_simp
              exact ⟨Below.refl _ _, rfl⟩
            refine allFrom_cons ?_ ?_
            · intro a_ w_ hk_
              have h7 : a_.eval (.tmp 7) = .pointer (some ⟨g7, 0, none⟩) := hk_.old 7 (by kernel_rfl)
              have hx_ := hk_.ext
              clear hk_
              refine flow_plain rfl ?_
              exact gives_load_agg _ _ rfl g7 0 h7 _ (aggBL hmx) (blk_cells (hblk7.below hx_ hg7l)) ⟨Below.refl _ _, rfl⟩
            exact allFrom_nil
          intro f_ w_ hx_ hf_
          have h44 : f_ 44 = (.pointer (some ⟨g, 0, none⟩)) := hf_ 0 44 _ (by decide) rfl rfl
          have h45 : f_ 45 = (.pointer (some ⟨g, 0, none⟩)) := hf_ 1 45 _ (by decide) rfl rfl
          have h46 : f_ 46 = (.pointer (some ⟨g, 1, none⟩)) := hf_ 2 46 _ (by decide) rfl rfl
          have h47 : f_ 47 = (.map (some m)) := hf_ 3 47 _ (by decide) rfl rfl
          have h48 : f_ 48 = (.pointer (some ⟨g9, 0, none⟩)) := hf_ 4 48 _ (by decide) rfl rfl
          have h49 : f_ 49 = (.int .i64 x.1) := hf_ 5 49 _ (by decide) rfl rfl
          have h50 : f_ 50 = (.agg ((mixB x.2 old yn).map cb).toArray) := hf_ 6 50 _ (by decide) rfl rfl
          simp only [mix, List.drop_succ_cons, List.drop_zero, h44, h45, h46, h47, h48, h49, h50]
          clear h44 h45 h46 h47 h48 h49 h50
          clear hf_
          have hKw := HK7.out.below hx_
          have hmw := hKw.map
          have hb8 := bx_trans hb7 hx_
          go_wp2_with (refine wpList_updI rfl _ _ _ rfl x.1 (bv (mixB x.2 old yn)) rfl rfl rfl Try.underlying56 Try.underlying3 hmw ?_; intro w9 hm9 ho9)
          go_roundw
          case rel =>
            have hu := hKw.upd hmx hm9 ho9
            refine ⟨k + 1, by omega, by omega, by go_num, ?_, HFK.out.trans ((DFr.of_below hb8 (by omega)).trans hu.2)⟩
            rw [HSN.out]
            have e : crash1 gk (x, y) = putG gk x.1 (mixB x.2 old yn) := by
              unfold crash1
              rw [HOLD.out, HFN.out]
            rw [e]
            exact hu.1
          case measure => simp [intOf]; omega
      · obtain rfl : k = front.length := by omega
        have hall : (D.loose.zip front).take front.length = D.loose.zip front := List.take_of_length_le (by simp; omega)
        rw [hall] at hK
        have HK := hid hK
        have HFK := hid hfk
        have hgB := hK.gB
        have hgs := hK.blk.lt
        clear hK hfk hall hf
        generalize D.loose[front.length] = x at *
        have hszr : 0 + (rec1 x).toArray.size ≤ zLoose.cells.size := by rw [zLoose_eq', List.size_toArray, recSize hx, List.size_toArray, recSize zeros_length]; omega
        go_wp2_with (first
            | (refine wpList_load_agg rfl _ _ rfl _ _ rfl (rec1 x) (aggRL hx) HCS.out ?_)
            | (refine wpList_alloc rfl _ rfl zeroLoose ?_; intro g9 w3 hg9 hg9' hblk9 hb9)
            | (refine wpList_store_agg rfl _ _ _ rfl _ _ rfl _ rfl (aggR hx) hblk9 hszr (one_rec1 _) ?_; intro w4 hput4; have hb4 := bx_put hb9 hput4 hg9; have hK4 := HK.out.below hb4; have c2 := hK4.c2; have c3 := hK4.c3; have c4 := hK4.c4; have f2 := hK4.blk.frozen 2; have f3 := hK4.blk.frozen 3; have f4 := hK4.blk.frozen 4; have HK4 := hid hK4; clear hK4))
        have hK4 := HK4.out
        have hp1 := setCell_put hK4.blk (i := 2) (.slice none 0 0)
        have hp2 := hp1.trans (setCell_put hp1.blk (i := 3) (.int .i64 (-1)))
        have hp3 := hp2.trans (setCell_put hp2.blk (i := 4) (.bool false))
        have hok : (crashD D front).Ok := ⟨hK4.ok.n1, hK4.ok.g256, fun x hx => (by cases hx), Nat.zero_le _, by show (-1 : Int) ≤ -1; omega, by show (-1 : Int) ≤ _; omega⟩
        have hfin := IsD.of_put (D := crashD D front) (m := m) (A := none) (c := 0) hK4.blk hp3 hK4.map (World.ownsRow_nil _ _ _ _) hok hK4.gB hK4.mB
        go_end0
        exact ⟨rfl, ⟨m, _, _, hfin.1⟩, HFK.out.trans ((DFr.of_below hb4 (by omega)).trans hfin.2)⟩
    · obtain rfl : k = D.loose.length := by omega
      have hall : (D.loose.zip front).take (D.loose.length) = D.loose.zip front := List.take_of_length_le (by simp; omega)
      rw [hall] at hK
      have c2 := hK.c2
      have c3 := hK.c3
      have c4 := hK.c4
      have f2 := hK.blk.frozen 2
      have f3 := hK.blk.frozen 3
      have f4 := hK.blk.frozen 4
      have hp1 := setCell_put hK.blk (i := 2) (.slice none 0 0)
      have hp2 := hp1.trans (setCell_put hp1.blk (i := 3) (.int .i64 (-1)))
      have hp3 := hp2.trans (setCell_put hp2.blk (i := 4) (.bool false))
      have hok : (crashD D front).Ok := ⟨hK.ok.n1, hK.ok.g256, fun x hx => (by cases hx), Nat.zero_le _, by show (-1 : Int) ≤ -1; omega, by show (-1 : Int) ≤ _; omega⟩
      have hfin := IsD.of_put (D := crashD D front) (m := m) (A := none) (c := 0) hK.blk hp3 hK.map (World.ownsRow_nil _ _ _ _) hok hK.gB hK.mB
      have HFIN := hid hfin
      have HFK := hid hfk
      clear hfin hp1 hp2 hp3 hok hfk hK hall
      go_wp2
      go_end0
      exact ⟨rfl, ⟨m, _, _, HFIN.out.1⟩, HFK.out.trans HFIN.out.2⟩
end Go.Proofs.Ytnbjoebdbbhbkaa
