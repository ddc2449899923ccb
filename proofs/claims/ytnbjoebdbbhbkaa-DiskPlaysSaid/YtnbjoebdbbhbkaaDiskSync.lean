
/- The disk's Sync. -/
import Derived.Test.YtnbjoebdbbhbkaaDiskWrite
namespace Go.Proofs.Ytnbjoebdbbhbkaa
open Go.RowKit
set_option linter.unusedVariables false

def putG (f : Int → Option (List UInt8)) (i : Int) (l : List UInt8) : Int → Option (List UInt8) := fun k => if k = i then some l else f k
def syncG (f : Int → Option (List UInt8)) (ls : List (Int × List UInt8)) : Int → Option (List UInt8) := ls.foldl (fun f x => putG f x.1 x.2) f
theorem syncG_snoc (f : Int → Option (List UInt8)) (ls : List (Int × List UInt8)) (x : Int × List UInt8) : syncG f (ls ++ [x]) = putG (syncG f ls) x.1 x.2 := by simp [syncG]
def withG (D : DS) (f : Int → Option (List UInt8)) : DS := { D with good := f }
theorem putG_ok {f : Int → Option (List UInt8)} (h : ∀ k l, f k = some l → l.length = 256) {i : Int} {l : List UInt8} (hl : l.length = 256) : ∀ k l', putG f i l k = some l' → l'.length = 256 := by
  intro k l' hk
  unfold putG at hk
  split at hk
  · injection hk with hk; exact hk ▸ hl
  · exact h k l' hk
/-- Behind an update of the map. -/
theorem IsD.upd {w w1 : World} {B g m c : Nat} {D : DS} {A : Option Addr} (h : IsD w B g D m A c) {i : Int} {l : List UInt8} (hl : l.length = 256) (hm : IMap w1 m (fun j => if j = i then some (bv l) else (D.good j).map bv)) (ho : Oth w w1 m) :
    IsD w1 B g (withG D (putG D.good i l)) m A c ∧ DFr B w w1 := by
  have hne := h.map.ne_blk h.blk
  refine ⟨⟨⟨h.ok.n1, putG_ok h.ok.g256 hl, h.ok.l256, h.ok.room, h.ok.f1, h.ok.f2⟩, ho.blk h.blk hne, ?_, h.own.kept (row := some m) ⟨ho.os, ho.tape, ho.output, Nat.le_of_eq ho.size.symm, fun k _ hk => ho.oth k (fun e => hk (by rw [e]))⟩ (.inr h.lne.2), h.gB, h.mB⟩, DFr.of_oth ho h.mB fun cs t fr hk => ?_⟩
  · have e : (fun k => ((withG D (putG D.good i l)).good k).map bv) = fun j => if j = i then some (bv l) else (D.good j).map bv := by
      funext j
      show ((if j = i then some l else D.good j) : Option (List UInt8)).map bv = _
      split <;> rfl
    rw [e]
    exact hm
  · obtain ⟨es, clock, hb, _⟩ := h.map
    rw [hk] at hb
    cases hb
def syncD (D : DS) : DS := { D with good := syncG D.good D.loose, loose := [] }
set_option maxRecDepth 100000 in
set_option maxHeartbeats 1000000 in
theorem Sync_ok (w : World) {B g : Nat} {D : DS} (h : IsDisk w B g D) (hd : D.dead = false) (hce : countE D = 0) :
    Calls Try.prog 17 #[.pointer (some ⟨g, 0, none⟩)] w fun e w' => e = .returned (.int .i64 0) ∧ IsDisk w' B g (syncD (countD D)) ∧ DFr B w w' := by
  have hmay : mayOf D = 0 := by unfold mayOf; rw [hd]; rfl
  go_enter Try.func17, Try.ntmps17
  go_wp2_with fail
  refine (dmay_any w h).mono ?_
  rintro e w1 ⟨rfl, rfl⟩
  rw [hmay]
  go_wp2_with fail
  refine (count_any w h).mono ?_
  rintro e w1 ⟨rfl, hdk, hfr⟩
  rw [hce]
  clear h hd hce hmay
  generalize hEE : countD D = E at *
  have HEE := hid hEE
  clear hEE
  obtain ⟨m, A, c, hE⟩ := hdk
  have c2 := hE.c2
  have hrm : E.loose.length ≤ 1000000 := hE.ok.room
  have HLV := hid hE.ok.l256
  go_wp2
  have h0 : IsD w1 B g (withG E (syncG E.good (E.loose.take 0))) m A c := hE
  have HFR := hid hfr
  clear c2 hfr hE
  go_loopw [22] (fun j wr => ∃ k : Nat, k ≤ E.loose.length ∧ j = .int .i64 k ∧ IsD wr B g (withG E (syncG E.good (E.loose.take k))) m A c ∧ DFr B w1 wr) (fun j _ => E.loose.length - (intOf j).toNat)
  case atStart => exact ⟨0, by omega, rfl, h0, DFr.refl _ _⟩
  case round =>
    obtain ⟨k, hk, rfl, hK, hfk⟩ := hrel
    by_cases hlt : k < E.loose.length
    · have hx := HLV.out _ (List.getElem_mem hlt)
      have hsn : syncG E.good (E.loose.take (k + 1)) = putG (syncG E.good (E.loose.take k)) E.loose[k].1 E.loose[k].2 := by rw [List.take_succ_eq_append_getElem hlt, syncG_snoc]
      have hget := lcells_get E.loose HLV.out k hlt
      obtain ⟨b, off, rfl, hbb, hcells⟩ := (own_rd hK.own).at_ (k := k * 257) (by show k * 257 < (lcells E.loose).length; rw [lcells_length _ HLV.out]; omega)
      have hcs : ∀ j v, (rec1 E.loose[k])[j]? = some v → wr.cell? ⟨b, off + k * 257 + j, none⟩ = some v := fun j v hv => by
        rw [Nat.add_assoc]
        exact hcells _ v (hget j v hv)
      have HSN := hid hsn
      have HCS := hid hcs
      clear hget hcells hsn hcs
      have HK := hid hK
      have HFK := hid hfk
      have hgB := hK.gB
      have hgs := hK.blk.lt
      clear h0 hfk
      generalize E.loose[k] = x at *
      have hszr : 0 + (rec1 x).toArray.size ≤ zLoose.cells.size := by rw [zLoose_eq', List.size_toArray, recSize hx, List.size_toArray, recSize zeros_length]; omega
      go_wp2_with (first
        | (refine wpList_load_agg rfl _ _ rfl _ _ rfl (rec1 x) (aggRL hx) HCS.out ?_)
        | (refine wpList_alloc rfl _ rfl zeroLoose ?_; intro g9 w3 hg9 hg9' hblk9 hb9)
        | (refine wpList_store_agg rfl _ _ _ rfl _ _ rfl _ rfl (aggR hx) hblk9 hszr (one_rec1 _) ?_; intro w4 hput4))
      have hblkr := blk_rec hx hput4
      have hc9 : w4.cell? ⟨g9, 0, none⟩ = some (.int .i64 x.1) := hblkr.cell 0
      have hcr := rec_body hblkr
      have hb4 := bx_put hb9 hput4 hg9
      have hK4 := HK.out.below hb4
      have HCR := hid hcr
      have HK4 := hid hK4
      have h94 := hblkr.lt
      clear hblk9 hput4 hb9 hcr hblkr
      refine wp_flow (by kernel_rfl) [0, 1, 3, 7, 0, 16, 0, 64, 255] 8 [false, false, false, false, false, false, false, false, false, false, false, false, false, false, false, false, false, false, false, false, false, false, false, false, false, false, true, true, true, true, true, true, true, true] (by kernel_rfl) (by decide) (by kernel_rfl) [FP.eq (.pointer (some ⟨g, 0, none⟩)), FP.eq (.pointer (some ⟨g, 0, none⟩)), FP.eq (.pointer (some ⟨g, 1, none⟩)), FP.eq (.map (some m)), FP.eq (.pointer (some ⟨g9, 0, none⟩)), FP.eq (.int .i64 x.1), FP.eq (.pointer (some ⟨g9, 1, none⟩)), FP.eq (.agg (x.2.map cb).toArray)] ?_ ?_
      · refine allFrom_cons ?_ ?_
        · intro a_ w_ hk_
          have h0 : a_.eval (.tmp 0) = .pointer (some ⟨g, 0, none⟩) := hk_.old 0 (by kernel_rfl)
          have hx_ := hk_.ext
          clear hk_
          refine flow_plain rfl ?_
          exact gives_move rfl ⟨Below.refl _ _, h0⟩
        refine allFrom_cons ?_ ?_
        · intro a_ w_ hk_
          have h26 : a_.eval (.tmp 26) = (.pointer (some ⟨g, 0, none⟩)) := hk_.got 0 26 _ (by kernel_rfl) rfl rfl
          have hx_ := hk_.ext
          clear hk_
          refine flow_plain rfl ?_
          unfold gives
          have hc_ : ∀ v, a_.eval (.const v) = v := fun _ => rfl
          have hn_ : ∀ f, a_.eval (.func f) = .func (.func f) #[] #[] := fun _ => rfl
          generalize a_.eval = ρ_ at *
          go_simp
          exact ⟨Below.refl _ _, rfl⟩
        refine allFrom_cons ?_ ?_
        · intro a_ w_ hk_
          have h27 : a_.eval (.tmp 27) = (.pointer (some ⟨g, 0, none⟩)) := hk_.got 1 27 _ (by kernel_rfl) rfl rfl
          have hx_ := hk_.ext
          clear hk_
          refine flow_plain rfl ?_
          unfold gives
          have hc_ : ∀ v, a_.eval (.const v) = v := fun _ => rfl
          have hn_ : ∀ f, a_.eval (.func f) = .func (.func f) #[] #[] := fun _ => rfl
          generalize a_.eval = ρ_ at *
          go_simp
          exact ⟨Below.refl _ _, rfl⟩
        refine allFrom_cons ?_ ?_
        · intro a_ w_ hk_
          have h28 : a_.eval (.tmp 28) = (.pointer (some ⟨g, 1, none⟩)) := hk_.got 2 28 _ (by kernel_rfl) rfl rfl
          have hx_ := hk_.ext
          clear hk_
          refine flow_plain rfl ?_
          unfold gives
          have hc_ : ∀ v, a_.eval (.const v) = v := fun _ => rfl
          have hn_ : ∀ f, a_.eval (.func f) = .func (.func f) #[] #[] := fun _ => rfl
          have hcell := (HK4.out.below hx_).c1
          generalize a_.eval = ρ_ at *
          go_simp
          exact ⟨Below.refl _ _, rfl⟩
        refine allFrom_cons ?_ ?_
        · intro a_ w_ hk_
          have h6 : a_.eval (.tmp 6) = .pointer (some ⟨g9, 0, none⟩) := hk_.old 6 (by kernel_rfl)
          have hx_ := hk_.ext
          clear hk_
          refine flow_plain rfl ?_
          unfold gives
          have hc_ : ∀ v, a_.eval (.const v) = v := fun _ => rfl
          have hn_ : ∀ f, a_.eval (.func f) = .func (.func f) #[] #[] := fun _ => rfl
          generalize a_.eval = ρ_ at *
          go_simp
          exact ⟨Below.refl _ _, rfl⟩
        refine allFrom_cons ?_ ?_
        · intro a_ w_ hk_
          have h30 : a_.eval (.tmp 30) = (.pointer (some ⟨g9, 0, none⟩)) := hk_.got 4 30 _ (by kernel_rfl) rfl rfl
          have hx_ := hk_.ext
          clear hk_
          refine flow_plain rfl ?_
          unfold gives
          have hc_ : ∀ v, a_.eval (.const v) = v := fun _ => rfl
          have hn_ : ∀ f, a_.eval (.func f) = .func (.func f) #[] #[] := fun _ => rfl
          have hcell := (hx_.cell (p := ⟨g9, 0, none⟩) h94).trans hc9
          generalize a_.eval = ρ_ at *
          go_simp
          exact ⟨Below.refl _ _, rfl⟩
        refine allFrom_cons ?_ ?_
        · intro a_ w_ hk_
          have h6 : a_.eval (.tmp 6) = .pointer (some ⟨g9, 0, none⟩) := hk_.old 6 (by kernel_rfl)
          have hx_ := hk_.ext
          clear hk_
          refine flow_plain rfl ?_
          unfold gives
          have hc_ : ∀ v, a_.eval (.const v) = v := fun _ => rfl
          have hn_ : ∀ f, a_.eval (.func f) = .func (.func f) #[] #[] := fun _ => rfl
          generalize a_.eval = ρ_ at *
          go_simp
          exact ⟨Below.refl _ _, rfl⟩
        refine allFrom_cons ?_ ?_
        · intro a_ w_ hk_
          have h32 : a_.eval (.tmp 32) = (.pointer (some ⟨g9, 1, none⟩)) := hk_.got 6 32 _ (by kernel_rfl) rfl rfl
          have hx_ := hk_.ext
          clear hk_
          refine flow_plain rfl ?_
          exact gives_load_agg _ _ rfl g9 1 h32 (x.2.map cb) (aggBL hx) (fun j v hv => (hx_.cell (p := ⟨g9, 1 + j, none⟩) h94).trans (HCR.out j v hv)) ⟨Below.refl _ _, rfl⟩
        exact allFrom_nil
      intro f_ w_ hx_ hf_
      have h26 : f_ 26 = (.pointer (some ⟨g, 0, none⟩)) := hf_ 0 26 _ (by decide) rfl rfl
      have h27 : f_ 27 = (.pointer (some ⟨g, 0, none⟩)) := hf_ 1 27 _ (by decide) rfl rfl
      have h28 : f_ 28 = (.pointer (some ⟨g, 1, none⟩)) := hf_ 2 28 _ (by decide) rfl rfl
      have h29 : f_ 29 = (.map (some m)) := hf_ 3 29 _ (by decide) rfl rfl
      have h30 : f_ 30 = (.pointer (some ⟨g9, 0, none⟩)) := hf_ 4 30 _ (by decide) rfl rfl
      have h31 : f_ 31 = (.int .i64 x.1) := hf_ 5 31 _ (by decide) rfl rfl
      have h32 : f_ 32 = (.pointer (some ⟨g9, 1, none⟩)) := hf_ 6 32 _ (by decide) rfl rfl
      have h33 : f_ 33 = (.agg (x.2.map cb).toArray) := hf_ 7 33 _ (by decide) rfl rfl
      simp only [mix, List.drop_succ_cons, List.drop_zero, h26, h27, h28, h29, h30, h31, h32, h33]
      clear h26 h27 h28 h29 h30 h31 h32 h33
      clear hf_
      have hKw := HK4.out.below hx_
      have hmw := hKw.map
      go_wp2_with (refine wpList_updI rfl _ _ _ rfl x.1 (bv x.2) rfl rfl rfl Try.underlying56 Try.underlying3 hmw ?_; intro w5 hm5 ho5)
      go_roundw
      case rel =>
        have hu := hKw.upd hx hm5 ho5
        refine ⟨k + 1, by omega, by go_num, ?_, HFK.out.trans ((DFr.of_below hb4 (by omega)).trans ((DFr.of_below hx_ (by omega)).trans hu.2))⟩
        rw [HSN.out]
        exact hu.1
      case measure => simp [intOf]; omega
    · obtain rfl : k = E.loose.length := by omega
      rw [List.take_length] at *
      have c2 := hK.c2
      have f2 := hK.blk.frozen 2
      go_wp2
      go_ret
      have hok : (syncD E).Ok := ⟨hK.ok.n1, hK.ok.g256, fun x hx => (by cases hx), Nat.zero_le _, hK.ok.f1, hK.ok.f2⟩
      have hfin := IsD.of_put (D := syncD E) (m := m) (A := none) (c := 0) hK.blk (setCell_put hK.blk (i := 2) (.slice none 0 0)) hK.map (World.ownsRow_nil _ _ _ _) hok hK.gB hK.mB
      have hEE := HEE.out
      subst hEE
      exact ⟨rfl, ⟨m, _, _, hfin.1⟩, HFR.out.trans (hfk.trans hfin.2)⟩
def syncE (D : DS) : Int := if D.dead then 30 else countE D
def syncW (D : DS) : DS := if D.dead then D else if countE D = 0 then syncD (countD D) else countD D
set_option maxHeartbeats 400000 in
/-- **Sync**, whatever the disk. -/
theorem Sync_any (w : World) {B g : Nat} {D : DS} (h : IsDisk w B g D) :
    Calls Try.prog 17 #[.pointer (some ⟨g, 0, none⟩)] w fun e w' => e = .returned (.int .i64 (syncE D)) ∧ IsDisk w' B g (syncW D) ∧ DFr B w w' := by
  unfold syncE syncW
  cases hd : D.dead with
  | true =>
    have hmay : mayOf D = 30 := by unfold mayOf; rw [hd]; rfl
    rw [if_pos rfl, if_pos rfl]
    have HH := hid h
    clear hd
    go_enter Try.func17, Try.ntmps17
    go_wp2_with fail
    refine (dmay_any w h).mono ?_
    rintro e w1 ⟨rfl, rfl⟩
    rw [hmay]
    go_wp2
    go_ret
    exact ⟨rfl, HH.out, DFr.refl _ _⟩
  | false =>
    have hmay : mayOf D = 0 := by unfold mayOf; rw [hd]; rfl
    rw [if_neg (by decide), if_neg (by decide)]
    by_cases hce : countE D = 0
    · rw [hce, if_pos rfl]
      exact Sync_ok w h hd hce
    · have hce' : countE D = 30 := by unfold countE at *; split at * <;> simp_all
      rw [hce', if_neg (by decide)]
      clear hce hd
      go_enter Try.func17, Try.ntmps17
      go_wp2_with fail
      refine (dmay_any w h).mono ?_
      rintro e w1 ⟨rfl, rfl⟩
      rw [hmay]
      go_wp2_with fail
      refine (count_any w h).mono ?_
      rintro e w1 ⟨rfl, hdk, hfr⟩
      rw [hce']
      go_wp2
      go_ret
      exact ⟨rfl, hdk, hfr⟩
set_option maxHeartbeats 400000 in
theorem Sync_nil (w : World) : Calls Try.prog 17 #[.pointer none] w fun e w' => e = .returned (.int .i64 1) ∧ w = w' := by
  go_enter Try.func17, Try.ntmps17
  go_wp2_with fail
  refine (may_nil w).mono ?_
  rintro e w1 ⟨rfl, rfl⟩
  go_wp2
  go_ret
  exact ⟨rfl, rfl⟩
set_option maxHeartbeats 400000 in
theorem Loose_nil (w : World) : Calls Try.prog 15 #[.pointer none] w fun e w' => e = .returned (.int .i64 0) ∧ w = w' := by
  go_enter Try.func15, Try.ntmps15
  go_wp2
  go_ret
  exact ⟨rfl, rfl⟩
set_option maxHeartbeats 400000 in
theorem Dead_nil (w : World) : Calls Try.prog 18 #[.pointer none] w fun e w' => e = .returned (.bool false) ∧ w = w' := by
  go_enter Try.func18, Try.ntmps18
  go_wp2
  go_ret
  exact ⟨rfl, rfl⟩
set_option maxHeartbeats 400000 in
theorem Fail_nil (w : World) (i : Int) : Calls Try.prog 19 #[.pointer none, .int .i64 i] w fun e w' => e = .returned (.tuple #[]) ∧ w = w' := by
  go_enter Try.func19, Try.ntmps19
  go_wp2
  go_end0
  exact ⟨rfl, rfl⟩
set_option maxHeartbeats 400000 in
theorem Crash_nil (w : World) (v : Value) : Calls Try.prog 13 #[.pointer none, v] w fun e w' => e = .returned (.tuple #[]) ∧ w = w' := by
  go_enter Try.func13, Try.ntmps13
  go_wp2
  refine bodyPost_ret_by (results_none rfl _ _ _) rfl ?_
  exact ⟨rfl, rfl⟩
end Go.Proofs.Ytnbjoebdbbhbkaa
