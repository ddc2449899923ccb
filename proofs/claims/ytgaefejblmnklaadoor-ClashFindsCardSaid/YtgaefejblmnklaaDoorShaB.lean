
/- SHA-256: row. -/
import Derived.Test.YtgaefejblmnklaaDoorShaA
namespace Go.Proofs.YtgaefejblmnklaaDoor
open Go.RowKit
set_option linter.unusedVariables false

abbrev tW : Nat := 83
theorem zeroW : ZeroT Tryd.prog 83 (.agg (wcells [])) := zeroT_of (by rw [wcells_nil]; kernel_rfl)
theorem aggW : AggT Tryd.prog 83 64 := aggT_of Tryd.underlying83 rfl (by kernel_rfl)
theorem wr_i64 (n : Int) (h0 : 0 ≤ n) (h1 : n < 9223372036854775808) : IntKind.i64.wrap n = n := wrap_small n h0 h1
theorem wr_u32 (n : Nat) (h : n < 4294967296) : IntKind.u32.wrap (n : Int) = (n : Int) := by
  simp [IntKind.wrap, IntKind.bits, IntKind.signed]
  omega
theorem wr32 (x : Int) (h0 : 0 ≤ x) (h : x < 4294967296) : IntKind.u32.wrap x = x := by
  simp [IntKind.wrap, IntKind.bits, IntKind.signed]
  omega
theorem or_w {x y : Int} {a b o : Nat} (hx : x = (a : Int)) (hy : y = (b : Int)) (ho : o = a ||| b) (ha : a < 4294967296) (hb : b < 4294967296) : bits BinOp.or IntKind.u32 x y = (o : Int) := by rw [hx, hy, ho, u32_or_nat _ _ ha hb]
theorem xor_w {x y : Int} {a b o : Nat} (hx : x = (a : Int)) (hy : y = (b : Int)) (ho : o = a ^^^ b) (ha : a < 4294967296) (hb : b < 4294967296) : bits BinOp.xor IntKind.u32 x y = (o : Int) := by rw [hx, hy, ho, u32_xor_nat _ _ ha hb]
theorem and_w {x y : Int} {a b o : Nat} (hx : x = (a : Int)) (hy : y = (b : Int)) (ho : o = a &&& b) (ha : a < 4294967296) (hb : b < 4294967296) : bits BinOp.and IntKind.u32 x y = (o : Int) := by rw [hx, hy, ho, u32_and_nat _ _ ha hb]
theorem one_cw (l : List Nat) : ∀ u ∈ (l.map cw).toArray.toList, u.oneCell' = true := by
  intro u hu
  obtain ⟨x, _, rfl⟩ := List.mem_map.1 (by simpa using hu)
  rfl
theorem row_get {w : World} {ba off j : Nat} {b : List UInt8} (h : ∀ i v, (b.map cb)[i]? = some v → w.cell? ⟨ba, off + i, none⟩ = some v) (hj : j < b.length) : w.cell? ⟨ba, off + j, none⟩ = some (.int .u8 (((b.getD j 0).toNat : Nat) : Int)) := by
  refine h j _ ?_
  simp [cb, hj, List.getD]
theorem add_w {x y : Int} {a b o : Nat} (hx : x = (a : Int)) (hy : y = (b : Int)) (ho : o = (a + b) % 4294967296) : IntKind.u32.wrap (x + y) = (o : Int) := by
  simp [IntKind.wrap, IntKind.bits, IntKind.signed]
  omega
theorem aggWL {W : List Nat} (h : W.length = 64) : AggT Tryd.prog 83 (W.map cw).length := by rw [List.length_map, h]; exact aggW
theorem aggWS {W : List Nat} (h : W.length = 64) : AggT Tryd.prog 83 (W.map cw).toArray.size := by rw [List.size_toArray, List.length_map, h]; exact aggW
set_option maxRecDepth 100000 in
set_option maxHeartbeats 4000000 in
theorem row_any (w : World) {A : Option Addr} {c B' : Nat} {b : List UInt8} (hr : Rd w B' A (b.map cb)) (hB' : B' ≤ w.heap.size) (hb : b.length = 64) :
    Calls Tryd.prog 38 #[.slice A 64 c] w fun e w' => e = .returned (.agg ((sched b).map cw).toArray) ∧ Below w.heap.size w w' := by
  obtain ⟨ba, off, rfl, hba, hcs⟩ := hr.at_ (k := 0) (by simp; omega)
  have HCS := hid hcs
  clear hcs hr
  go_enter Tryd.func38, Tryd.ntmps38
  go_wp2_with (refine wpList_alloc rfl _ rfl zeroW ?_; intro g3 w3 hg3 hg3' hblk3 hb3)
  rename_i g2 w2 hg2 hg2' hblk2 hb2 _ _
  have hblk23 := hblk2.below hb3 hblk2.lt
  have hb13 := bx_trans hb2 hb3
  have h23 : g2 < g3 := by have := hblk2.lt; omega
  have h3w : w.heap.size ≤ g3 := by omega
  clear hg2' hg3' hg3 hblk2 hb2 hb3
  go_loopw [8] (fun j wr => ∃ k : Nat, k ≤ 16 ∧ j = .int .i64 k ∧ Blk wr g2 tW (wcells []) ∧ Blk wr g3 tW (wcells (wfirst b k)) ∧ Below w.heap.size w wr) (fun j _ => 16 - (intOf j).toNat)
  case atStart => exact ⟨0, by omega, rfl, hblk23, hblk3, hb13⟩
  case round =>
    obtain ⟨k, hk, rfl, hk2, hk3, hbr⟩ := hrel
    clear hblk23 hblk3 hb13
    by_cases hlt : k < 16
    · obtain ⟨p, hp⟩ : ∃ p : Nat, p = 4 * k := ⟨_, rfl⟩
      have hpm : 4 * (k : Int) = (p : Int) := by omega
      have hc0 := row_get HCS.out (j := p) (by omega)
      have hc1 := row_get HCS.out (j := p + 1) (by omega)
      have hc2 := row_get HCS.out (j := p + 2) (by omega)
      have hc3 := row_get HCS.out (j := p + 3) (by omega)
      have hby : by4 b p = (b.getD p 0).toNat * 16777216 + (b.getD (p + 1) 0).toNat * 65536 + (b.getD (p + 2) 0).toNat * 256 + (b.getD (p + 3) 0).toNat := rfl
      have h0 := (b.getD p 0).toNat_lt
      have h1 := (b.getD (p + 1) 0).toNat_lt
      have h2 := (b.getD (p + 2) 0).toNat_lt
      have h3 := (b.getD (p + 3) 0).toNat_lt
      have hbe := be_walk h0 h1 h2 h3
      rw [← hby] at hbe
      have hsc := wfirst_succ b k
      rw [← hp] at hsc
      have hbl := by4_lt b p
      obtain ⟨o1, ho1⟩ : ∃ o1 : Nat, o1 = (b.getD p 0).toNat * 16777216 ||| (b.getD (p + 1) 0).toNat * 65536 := ⟨_, rfl⟩
      obtain ⟨o2, ho2⟩ : ∃ o2 : Nat, o2 = o1 ||| (b.getD (p + 2) 0).toNat * 256 := ⟨_, rfl⟩
      have hl1 : o1 < 4294967296 := by rw [ho1]; exact or_lt32 (by omega) (by omega)
      have hl2 : o2 < 4294967296 := by rw [ho2]; exact or_lt32 hl1 (by omega)
      rw [← ho1, ← ho2] at hbe
      have HO1 := hid ho1
      have HO2 := hid ho2
      have HBE := hid hbe
      clear ho1 ho2 hbe
      have HSC := hid hsc
      clear hby hsc
      generalize by4 b p = val at *
      generalize (b.getD p 0).toNat = n0 at *
      generalize (b.getD (p + 1) 0).toNat = n1 at *
      generalize (b.getD (p + 2) 0).toNat = n2 at *
      generalize (b.getD (p + 3) 0).toNat = n3 at *
      have hp60 : p ≤ 60 := by omega
      have HP := hid hp
      clear hp
      have hbaw : ba < wr.heap.size := by have := hbr.size; omega
      have hC0 := (hbr.cell (p := ⟨ba, off + p, none⟩) (by show ba < _; omega)).trans hc0
      have hC1 := (hbr.cell (p := ⟨ba, off + (p + 1), none⟩) (by show ba < _; omega)).trans hc1
      have hC2 := (hbr.cell (p := ⟨ba, off + (p + 2), none⟩) (by show ba < _; omega)).trans hc2
      have hC3 := (hbr.cell (p := ⟨ba, off + (p + 3), none⟩) (by show ba < _; omega)).trans hc3
      obtain ⟨p1, hp1⟩ : ∃ p1 : Nat, p1 = p + 1 := ⟨_, rfl⟩
      obtain ⟨p2, hp2⟩ : ∃ p2 : Nat, p2 = p + 2 := ⟨_, rfl⟩
      obtain ⟨p3, hp3⟩ : ∃ p3 : Nat, p3 = p + 3 := ⟨_, rfl⟩
      have e1 : (p : Int) + 1 = (p1 : Int) := by omega
      have e2 : (p : Int) + 2 = (p2 : Int) := by omega
      have e3 : (p : Int) + 3 = (p3 : Int) := by omega
      rw [← hp1] at hC1
      rw [← hp2] at hC2
      rw [← hp3] at hC3
      have hp0' : (p : Int) < 64 := by omega
      have hp1' : (p1 : Int) < 64 := by omega
      have hp2' : (p2 : Int) < 64 := by omega
      have hp3' : (p3 : Int) < 64 := by omega
      clear hp1 hp2 hp3 hc0 hc1 hc2 hc3
      go_wp2_with fail
      refine wp_flow (by kernel_rfl) [0, 0, 0, 4, 14, 30, 62, 126, 0, 0, 512, 1536, 3840, 7936, 16128, 32512, 65534, 0, 0, 262144, 786432, 1966080, 4063232, 8257536, 16646144, 33554430, 0, 0, 134217728, 402653184, 1006632960, 2080374784, 4227858432, 8589934590, 17179869183, 34359738367] 34 [false, false, false, false, false, false, false, false, false, false, false, true, true, true, true, true, true, true, true, true, true, true, true, true, true, true, true, true, true, true, true, true, true, true, true, true, true, true, true, true, true, true, true, true, true, false] (by kernel_rfl) (by decide) (by kernel_rfl) [FP.eq (.int .i64 k), FP.eq (.slice (some ⟨ba, off, none⟩) 64 c), FP.eq (.int .i64 k), FP.eq (.int .i64 (p : Int)), FP.eq (.pointer (some ⟨ba, off + p, none⟩)), FP.eq (.int .u8 (n0 : Int)), FP.eq (.int .u32 (n0 : Int)), FP.eq (.int .u32 ((n0 * 16777216 : Nat) : Int)), FP.eq (.slice (some ⟨ba, off, none⟩) 64 c), FP.eq (.int .i64 k), FP.eq (.int .i64 (p : Int)), FP.eq (.int .i64 (p1 : Int)), FP.eq (.pointer (some ⟨ba, off + p1, none⟩)), FP.eq (.int .u8 (n1 : Int)), FP.eq (.int .u32 (n1 : Int)), FP.eq (.int .u32 ((n1 * 65536 : Nat) : Int)), FP.eq (.int .u32 (o1 : Int)), FP.eq (.slice (some ⟨ba, off, none⟩) 64 c), FP.eq (.int .i64 k), FP.eq (.int .i64 (p : Int)), FP.eq (.int .i64 (p2 : Int)), FP.eq (.pointer (some ⟨ba, off + p2, none⟩)), FP.eq (.int .u8 (n2 : Int)), FP.eq (.int .u32 (n2 : Int)), FP.eq (.int .u32 ((n2 * 256 : Nat) : Int)), FP.eq (.int .u32 (o2 : Int)), FP.eq (.slice (some ⟨ba, off, none⟩) 64 c), FP.eq (.int .i64 k), FP.eq (.int .i64 (p : Int)), FP.eq (.int .i64 (p3 : Int)), FP.eq (.pointer (some ⟨ba, off + p3, none⟩)), FP.eq (.int .u8 (n3 : Int)), FP.eq (.int .u32 (n3 : Int)), FP.eq (.int .u32 (val : Int))] ?_ ?_
      · refine allFrom_cons ?_ ?_
        · intro a_ w_ hk_
          have h4 : a_.eval (.tmp 4) = .int .i64 k := hk_.old 4 (by kernel_rfl)
          have hx_ := hk_.ext
          clear hk_
          refine flow_plain rfl ?_
          exact gives_move rfl ⟨Below.refl _ _, h4⟩
        refine allFrom_cons ?_ ?_
        · intro a_ w_ hk_
          have h0 : a_.eval (.tmp 0) = .slice (some ⟨ba, off, none⟩) 64 c := hk_.old 0 (by kernel_rfl)
          have hx_ := hk_.ext
          clear hk_
          refine flow_plain rfl ?_
          exact gives_move rfl ⟨Below.refl _ _, h0⟩
        refine allFrom_cons ?_ ?_
        · intro a_ w_ hk_
          have h4 : a_.eval (.tmp 4) = .int .i64 k := hk_.old 4 (by kernel_rfl)
          have hx_ := hk_.ext
          clear hk_
          refine flow_plain rfl ?_
          exact gives_move rfl ⟨Below.refl _ _, h4⟩
        refine allFrom_cons ?_ ?_
        · intro a_ w_ hk_
          have h13 : a_.eval (.tmp 13) = (.int .i64 k) := hk_.got 2 13 _ (by kernel_rfl) rfl rfl
          have hx_ := hk_.ext
          clear hk_
          refine flow_plain rfl ?_
          unfold gives
          have hc_ : ∀ v, a_.eval (.const v) = v := fun _ => rfl
          have hn_ : ∀ f, a_.eval (.func f) = .func (.func f) #[] #[] := fun _ => rfl
          generalize a_.eval = ρ_ at *
          go_simp
          exact ⟨Below.refl _ _, congrArg (Value.int _) (wr_i64 _ (by omega) (by omega))⟩
        refine allFrom_cons ?_ ?_
        · intro a_ w_ hk_
          have h12 : a_.eval (.tmp 12) = (.slice (some ⟨ba, off, none⟩) 64 c) := hk_.got 1 12 _ (by kernel_rfl) rfl rfl
          have h14 : a_.eval (.tmp 14) = (.int .i64 (p : Int)) := hk_.got 3 14 _ (by kernel_rfl) rfl rfl
          have hx_ := hk_.ext
          clear hk_
          refine flow_plain rfl ?_
          unfold gives
          have hc_ : ∀ v, a_.eval (.const v) = v := fun _ => rfl
          have hn_ : ∀ f, a_.eval (.func f) = .func (.func f) #[] #[] := fun _ => rfl
          generalize a_.eval = ρ_ at *
          go_simp
          exact ⟨Below.refl _ _, rfl⟩
        refine allFrom_cons ?_ ?_
        · intro a_ w_ hk_
          have h15 : a_.eval (.tmp 15) = (.pointer (some ⟨ba, off + p, none⟩)) := hk_.got 4 15 _ (by kernel_rfl) rfl rfl
          have hx_ := hk_.ext
          clear hk_
          refine flow_plain rfl ?_
          unfold gives
          have hc_ : ∀ v, a_.eval (.const v) = v := fun _ => rfl
          have hn_ : ∀ f, a_.eval (.func f) = .func (.func f) #[] #[] := fun _ => rfl
          have hcell := (hx_.cell (p := ⟨ba, off + p, none⟩) hbaw).trans hC0
          generalize a_.eval = ρ_ at *
          go_simp
          exact ⟨Below.refl _ _, rfl⟩
        refine allFrom_cons ?_ ?_
        · intro a_ w_ hk_
          have h16 : a_.eval (.tmp 16) = (.int .u8 (n0 : Int)) := hk_.got 5 16 _ (by kernel_rfl) rfl rfl
          have hx_ := hk_.ext
          clear hk_
          refine flow_plain rfl ?_
          unfold gives
          have hc_ : ∀ v, a_.eval (.const v) = v := fun _ => rfl
          have hn_ : ∀ f, a_.eval (.func f) = .func (.func f) #[] #[] := fun _ => rfl
          generalize a_.eval = ρ_ at *
          go_simp
          exact ⟨Below.refl _ _, congrArg (Value.int _) (wr32 _ (by omega) (by omega))⟩
        refine allFrom_cons ?_ ?_
        · intro a_ w_ hk_
          have h17 : a_.eval (.tmp 17) = (.int .u32 (n0 : Int)) := hk_.got 6 17 _ (by kernel_rfl) rfl rfl
          have hx_ := hk_.ext
          clear hk_
          refine flow_plain rfl ?_
          unfold gives
          have hc_ : ∀ v, a_.eval (.const v) = v := fun _ => rfl
          have hn_ : ∀ f, a_.eval (.func f) = .func (.func f) #[] #[] := fun _ => rfl
          generalize a_.eval = ρ_ at *
          go_simp
          exact ⟨Below.refl _ _, congrArg (Value.int _) (wr32 _ (by omega) (by omega))⟩
        refine allFrom_cons ?_ ?_
        · intro a_ w_ hk_
          have h0 : a_.eval (.tmp 0) = .slice (some ⟨ba, off, none⟩) 64 c := hk_.old 0 (by kernel_rfl)
          have hx_ := hk_.ext
          clear hk_
          refine flow_plain rfl ?_
          exact gives_move rfl ⟨Below.refl _ _, h0⟩
        refine allFrom_cons ?_ ?_
        · intro a_ w_ hk_
          have h4 : a_.eval (.tmp 4) = .int .i64 k := hk_.old 4 (by kernel_rfl)
          have hx_ := hk_.ext
          clear hk_
          refine flow_plain rfl ?_
          exact gives_move rfl ⟨Below.refl _ _, h4⟩
        refine allFrom_cons ?_ ?_
        · intro a_ w_ hk_
          have h20 : a_.eval (.tmp 20) = (.int .i64 k) := hk_.got 9 20 _ (by kernel_rfl) rfl rfl
          have hx_ := hk_.ext
          clear hk_
          refine flow_plain rfl ?_
          unfold gives
          have hc_ : ∀ v, a_.eval (.const v) = v := fun _ => rfl
          have hn_ : ∀ f, a_.eval (.func f) = .func (.func f) #[] #[] := fun _ => rfl
          generalize a_.eval = ρ_ at *
          go_simp
          exact ⟨Below.refl _ _, congrArg (Value.int _) (wr_i64 _ (by omega) (by omega))⟩
        refine allFrom_cons ?_ ?_
        · intro a_ w_ hk_
          have h21 : a_.eval (.tmp 21) = (.int .i64 (p : Int)) := hk_.got 10 21 _ (by kernel_rfl) rfl rfl
          have hx_ := hk_.ext
          clear hk_
          refine flow_plain rfl ?_
          unfold gives
          have hc_ : ∀ v, a_.eval (.const v) = v := fun _ => rfl
          have hn_ : ∀ f, a_.eval (.func f) = .func (.func f) #[] #[] := fun _ => rfl
          generalize a_.eval = ρ_ at *
          go_simp
          exact ⟨Below.refl _ _, congrArg (Value.int _) (wr_i64 _ (by omega) (by omega))⟩
        refine allFrom_cons ?_ ?_
        · intro a_ w_ hk_
          have h19 : a_.eval (.tmp 19) = (.slice (some ⟨ba, off, none⟩) 64 c) := hk_.got 8 19 _ (by kernel_rfl) rfl rfl
          have h22 : a_.eval (.tmp 22) = (.int .i64 (p1 : Int)) := hk_.got 11 22 _ (by kernel_rfl) rfl rfl
          have hx_ := hk_.ext
          clear hk_
          refine flow_plain rfl ?_
          unfold gives
          have hc_ : ∀ v, a_.eval (.const v) = v := fun _ => rfl
          have hn_ : ∀ f, a_.eval (.func f) = .func (.func f) #[] #[] := fun _ => rfl
          generalize a_.eval = ρ_ at *
          go_simp
          exact ⟨Below.refl _ _, rfl⟩
        refine allFrom_cons ?_ ?_
        · intro a_ w_ hk_
          have h23 : a_.eval (.tmp 23) = (.pointer (some ⟨ba, off + p1, none⟩)) := hk_.got 12 23 _ (by kernel_rfl) rfl rfl
          have hx_ := hk_.ext
          clear hk_
          refine flow_plain rfl ?_
          unfold gives
          have hc_ : ∀ v, a_.eval (.const v) = v := fun _ => rfl
          have hn_ : ∀ f, a_.eval (.func f) = .func (.func f) #[] #[] := fun _ => rfl
          have hcell := (hx_.cell (p := ⟨ba, off + p1, none⟩) hbaw).trans hC1
          generalize a_.eval = ρ_ at *
          go_simp
          exact ⟨Below.refl _ _, rfl⟩
        refine allFrom_cons ?_ ?_
        · intro a_ w_ hk_
          have h24 : a_.eval (.tmp 24) = (.int .u8 (n1 : Int)) := hk_.got 13 24 _ (by kernel_rfl) rfl rfl
          have hx_ := hk_.ext
          clear hk_
          refine flow_plain rfl ?_
          unfold gives
          have hc_ : ∀ v, a_.eval (.const v) = v := fun _ => rfl
          have hn_ : ∀ f, a_.eval (.func f) = .func (.func f) #[] #[] := fun _ => rfl
          generalize a_.eval = ρ_ at *
          go_simp
          exact ⟨Below.refl _ _, congrArg (Value.int _) (wr32 _ (by omega) (by omega))⟩
        refine allFrom_cons ?_ ?_
        · intro a_ w_ hk_
          have h25 : a_.eval (.tmp 25) = (.int .u32 (n1 : Int)) := hk_.got 14 25 _ (by kernel_rfl) rfl rfl
          have hx_ := hk_.ext
          clear hk_
          refine flow_plain rfl ?_
          unfold gives
          have hc_ : ∀ v, a_.eval (.const v) = v := fun _ => rfl
          have hn_ : ∀ f, a_.eval (.func f) = .func (.func f) #[] #[] := fun _ => rfl
          generalize a_.eval = ρ_ at *
          go_simp
          exact ⟨Below.refl _ _, congrArg (Value.int _) (wr32 _ (by omega) (by omega))⟩
        refine allFrom_cons ?_ ?_
        · intro a_ w_ hk_
          have h18 : a_.eval (.tmp 18) = (.int .u32 ((n0 * 16777216 : Nat) : Int)) := hk_.got 7 18 _ (by kernel_rfl) rfl rfl
          have h26 : a_.eval (.tmp 26) = (.int .u32 ((n1 * 65536 : Nat) : Int)) := hk_.got 15 26 _ (by kernel_rfl) rfl rfl
          have hx_ := hk_.ext
          clear hk_
          refine flow_plain rfl ?_
          unfold gives
          have hc_ : ∀ v, a_.eval (.const v) = v := fun _ => rfl
          have hn_ : ∀ f, a_.eval (.func f) = .func (.func f) #[] #[] := fun _ => rfl
          generalize a_.eval = ρ_ at *
          go_simp
          exact ⟨Below.refl _ _, congrArg (Value.int _) (or_w (by omega) (by omega) HO1.out (by omega) (by omega))⟩
        refine allFrom_cons ?_ ?_
        · intro a_ w_ hk_
          have h0 : a_.eval (.tmp 0) = .slice (some ⟨ba, off, none⟩) 64 c := hk_.old 0 (by kernel_rfl)
          have hx_ := hk_.ext
          clear hk_
          refine flow_plain rfl ?_
          exact gives_move rfl ⟨Below.refl _ _, h0⟩
        refine allFrom_cons ?_ ?_
        · intro a_ w_ hk_
          have h4 : a_.eval (.tmp 4) = .int .i64 k := hk_.old 4 (by kernel_rfl)
          have hx_ := hk_.ext
          clear hk_
          refine flow_plain rfl ?_
          exact gives_move rfl ⟨Below.refl _ _, h4⟩
        refine allFrom_cons ?_ ?_
        · intro a_ w_ hk_
          have h29 : a_.eval (.tmp 29) = (.int .i64 k) := hk_.got 18 29 _ (by kernel_rfl) rfl rfl
          have hx_ := hk_.ext
          clear hk_
          refine flow_plain rfl ?_
          unfold gives
          have hc_ : ∀ v, a_.eval (.const v) = v := fun _ => rfl
          have hn_ : ∀ f, a_.eval (.func f) = .func (.func f) #[] #[] := fun _ => rfl
          generalize a_.eval = ρ_ at *
          go_simp
          exact ⟨Below.refl _ _, congrArg (Value.int _) (wr_i64 _ (by omega) (by omega))⟩
        refine allFrom_cons ?_ ?_
        · intro a_ w_ hk_
          have h30 : a_.eval (.tmp 30) = (.int .i64 (p : Int)) := hk_.got 19 30 _ (by kernel_rfl) rfl rfl
          have hx_ := hk_.ext
          clear hk_
          refine flow_plain rfl ?_
          unfold gives
          have hc_ : ∀ v, a_.eval (.const v) = v := fun _ => rfl
          have hn_ : ∀ f, a_.eval (.func f) = .func (.func f) #[] #[] := fun _ => rfl
          generalize a_.eval = ρ_ at *
          go_simp
          exact ⟨Below.refl _ _, congrArg (Value.int _) (wr_i64 _ (by omega) (by omega))⟩
        refine allFrom_cons ?_ ?_
        · intro a_ w_ hk_
          have h28 : a_.eval (.tmp 28) = (.slice (some ⟨ba, off, none⟩) 64 c) := hk_.got 17 28 _ (by kernel_rfl) rfl rfl
          have h31 : a_.eval (.tmp 31) = (.int .i64 (p2 : Int)) := hk_.got 20 31 _ (by kernel_rfl) rfl rfl
          have hx_ := hk_.ext
          clear hk_
          refine flow_plain rfl ?_
          unfold gives
          have hc_ : ∀ v, a_.eval (.const v) = v := fun _ => rfl
          have hn_ : ∀ f, a_.eval (.func f) = .func (.func f) #[] #[] := fun _ => rfl
          generalize a_.eval = ρ_ at *
          go_simp
          exact ⟨Below.refl _ _, rfl⟩
        refine allFrom_cons ?_ ?_
        · intro a_ w_ hk_
          have h32 : a_.eval (.tmp 32) = (.pointer (some ⟨ba, off + p2, none⟩)) := hk_.got 21 32 _ (by kernel_rfl) rfl rfl
          have hx_ := hk_.ext
          clear hk_
          refine flow_plain rfl ?_
          unfold gives
          have hc_ : ∀ v, a_.eval (.const v) = v := fun _ => rfl
          have hn_ : ∀ f, a_.eval (.func f) = .func (.func f) #[] #[] := fun _ => rfl
          have hcell := (hx_.cell (p := ⟨ba, off + p2, none⟩) hbaw).trans hC2
          generalize a_.eval = ρ_ at *
          go_simp
          exact ⟨Below.refl _ _, rfl⟩
        refine allFrom_cons ?_ ?_
        · intro a_ w_ hk_
          have h33 : a_.eval (.tmp 33) = (.int .u8 (n2 : Int)) := hk_.got 22 33 _ (by kernel_rfl) rfl rfl
          have hx_ := hk_.ext
          clear hk_
          refine flow_plain rfl ?_
          unfold gives
          have hc_ : ∀ v, a_.eval (.const v) = v := fun _ => rfl
          have hn_ : ∀ f, a_.eval (.func f) = .func (.func f) #[] #[] := fun _ => rfl
          generalize a_.eval = ρ_ at *
          go_simp
          exact ⟨Below.refl _ _, congrArg (Value.int _) (wr32 _ (by omega) (by omega))⟩
        refine allFrom_cons ?_ ?_
        · intro a_ w_ hk_
          have h34 : a_.eval (.tmp 34) = (.int .u32 (n2 : Int)) := hk_.got 23 34 _ (by kernel_rfl) rfl rfl
          have hx_ := hk_.ext
          clear hk_
          refine flow_plain rfl ?_
          unfold gives
          have hc_ : ∀ v, a_.eval (.const v) = v := fun _ => rfl
          have hn_ : ∀ f, a_.eval (.func f) = .func (.func f) #[] #[] := fun _ => rfl
          generalize a_.eval = ρ_ at *
          go_simp
          exact ⟨Below.refl _ _, congrArg (Value.int _) (wr32 _ (by omega) (by omega))⟩
        refine allFrom_cons ?_ ?_
        · intro a_ w_ hk_
          have h27 : a_.eval (.tmp 27) = (.int .u32 (o1 : Int)) := hk_.got 16 27 _ (by kernel_rfl) rfl rfl
          have h35 : a_.eval (.tmp 35) = (.int .u32 ((n2 * 256 : Nat) : Int)) := hk_.got 24 35 _ (by kernel_rfl) rfl rfl
          have hx_ := hk_.ext
          clear hk_
          refine flow_plain rfl ?_
          unfold gives
          have hc_ : ∀ v, a_.eval (.const v) = v := fun _ => rfl
          have hn_ : ∀ f, a_.eval (.func f) = .func (.func f) #[] #[] := fun _ => rfl
          generalize a_.eval = ρ_ at *
          go_simp
          exact ⟨Below.refl _ _, congrArg (Value.int _) (or_w (by omega) (by omega) HO2.out (by omega) (by omega))⟩
        refine allFrom_cons ?_ ?_
        · intro a_ w_ hk_
          have h0 : a_.eval (.tmp 0) = .slice (some ⟨ba, off, none⟩) 64 c := hk_.old 0 (by kernel_rfl)
          have hx_ := hk_.ext
          clear hk_
          refine flow_plain rfl ?_
          exact gives_move rfl ⟨Below.refl _ _, h0⟩
        refine allFrom_cons ?_ ?_
        · intro a_ w_ hk_
          have h4 : a_.eval (.tmp 4) = .int .i64 k := hk_.old 4 (by kernel_rfl)
          have hx_ := hk_.ext
          clear hk_
          refine flow_plain rfl ?_
          exact gives_move rfl ⟨Below.refl _ _, h4⟩
        refine allFrom_cons ?_ ?_
        · intro a_ w_ hk_
          have h38 : a_.eval (.tmp 38) = (.int .i64 k) := hk_.got 27 38 _ (by kernel_rfl) rfl rfl
          have hx_ := hk_.ext
          clear hk_
          refine flow_plain rfl ?_
          unfold gives
          have hc_ : ∀ v, a_.eval (.const v) = v := fun _ => rfl
          have hn_ : ∀ f, a_.eval (.func f) = .func (.func f) #[] #[] := fun _ => rfl
          generalize a_.eval = ρ_ at *
          go_simp
          exact ⟨Below.refl _ _, congrArg (Value.int _) (wr_i64 _ (by omega) (by omega))⟩
        refine allFrom_cons ?_ ?_
        · intro a_ w_ hk_
          have h39 : a_.eval (.tmp 39) = (.int .i64 (p : Int)) := hk_.got 28 39 _ (by kernel_rfl) rfl rfl
          have hx_ := hk_.ext
          clear hk_
          refine flow_plain rfl ?_
          unfold gives
          have hc_ : ∀ v, a_.eval (.const v) = v := fun _ => rfl
          have hn_ : ∀ f, a_.eval (.func f) = .func (.func f) #[] #[] := fun _ => rfl
          generalize a_.eval = ρ_ at *
          go_simp
          exact ⟨Below.refl _ _, congrArg (Value.int _) (wr_i64 _ (by omega) (by omega))⟩
        refine allFrom_cons ?_ ?_
        · intro a_ w_ hk_
          have h37 : a_.eval (.tmp 37) = (.slice (some ⟨ba, off, none⟩) 64 c) := hk_.got 26 37 _ (by kernel_rfl) rfl rfl
          have h40 : a_.eval (.tmp 40) = (.int .i64 (p3 : Int)) := hk_.got 29 40 _ (by kernel_rfl) rfl rfl
          have hx_ := hk_.ext
          clear hk_
          refine flow_plain rfl ?_
          unfold gives
          have hc_ : ∀ v, a_.eval (.const v) = v := fun _ => rfl
          have hn_ : ∀ f, a_.eval (.func f) = .func (.func f) #[] #[] := fun _ => rfl
          generalize a_.eval = ρ_ at *
          go_simp
          exact ⟨Below.refl _ _, rfl⟩
        refine allFrom_cons ?_ ?_
        · intro a_ w_ hk_
          have h41 : a_.eval (.tmp 41) = (.pointer (some ⟨ba, off + p3, none⟩)) := hk_.got 30 41 _ (by kernel_rfl) rfl rfl
          have hx_ := hk_.ext
          clear hk_
          refine flow_plain rfl ?_
          unfold gives
          have hc_ : ∀ v, a_.eval (.const v) = v := fun _ => rfl
          have hn_ : ∀ f, a_.eval (.func f) = .func (.func f) #[] #[] := fun _ => rfl
          have hcell := (hx_.cell (p := ⟨ba, off + p3, none⟩) hbaw).trans hC3
          generalize a_.eval = ρ_ at *
          go_simp
          exact ⟨Below.refl _ _, rfl⟩
        refine allFrom_cons ?_ ?_
        · intro a_ w_ hk_
          have h42 : a_.eval (.tmp 42) = (.int .u8 (n3 : Int)) := hk_.got 31 42 _ (by kernel_rfl) rfl rfl
          have hx_ := hk_.ext
          clear hk_
          refine flow_plain rfl ?_
          unfold gives
          have hc_ : ∀ v, a_.eval (.const v) = v := fun _ => rfl
          have hn_ : ∀ f, a_.eval (.func f) = .func (.func f) #[] #[] := fun _ => rfl
          generalize a_.eval = ρ_ at *
          go_simp
          exact ⟨Below.refl _ _, congrArg (Value.int _) (wr32 _ (by omega) (by omega))⟩
        refine allFrom_cons ?_ ?_
        · intro a_ w_ hk_
          have h36 : a_.eval (.tmp 36) = (.int .u32 (o2 : Int)) := hk_.got 25 36 _ (by kernel_rfl) rfl rfl
          have h43 : a_.eval (.tmp 43) = (.int .u32 (n3 : Int)) := hk_.got 32 43 _ (by kernel_rfl) rfl rfl
          have hx_ := hk_.ext
          clear hk_
          refine flow_plain rfl ?_
          unfold gives
          have hc_ : ∀ v, a_.eval (.const v) = v := fun _ => rfl
          have hn_ : ∀ f, a_.eval (.func f) = .func (.func f) #[] #[] := fun _ => rfl
          generalize a_.eval = ρ_ at *
          go_simp
          exact ⟨Below.refl _ _, congrArg (Value.int _) (or_w (by omega) (by omega) HBE.out.symm (by omega) (by omega))⟩
        exact allFrom_nil
      intro f_ w_ hx_ hf_
      have h11 : f_ 11 = (.int .i64 k) := hf_ 0 11 _ (by decide) rfl rfl
      have h12 : f_ 12 = (.slice (some ⟨ba, off, none⟩) 64 c) := hf_ 1 12 _ (by decide) rfl rfl
      have h13 : f_ 13 = (.int .i64 k) := hf_ 2 13 _ (by decide) rfl rfl
      have h14 : f_ 14 = (.int .i64 (p : Int)) := hf_ 3 14 _ (by decide) rfl rfl
      have h15 : f_ 15 = (.pointer (some ⟨ba, off + p, none⟩)) := hf_ 4 15 _ (by decide) rfl rfl
      have h16 : f_ 16 = (.int .u8 (n0 : Int)) := hf_ 5 16 _ (by decide) rfl rfl
      have h17 : f_ 17 = (.int .u32 (n0 : Int)) := hf_ 6 17 _ (by decide) rfl rfl
      have h18 : f_ 18 = (.int .u32 ((n0 * 16777216 : Nat) : Int)) := hf_ 7 18 _ (by decide) rfl rfl
      have h19 : f_ 19 = (.slice (some ⟨ba, off, none⟩) 64 c) := hf_ 8 19 _ (by decide) rfl rfl
      have h20 : f_ 20 = (.int .i64 k) := hf_ 9 20 _ (by decide) rfl rfl
      have h21 : f_ 21 = (.int .i64 (p : Int)) := hf_ 10 21 _ (by decide) rfl rfl
      have h22 : f_ 22 = (.int .i64 (p1 : Int)) := hf_ 11 22 _ (by decide) rfl rfl
      have h23 : f_ 23 = (.pointer (some ⟨ba, off + p1, none⟩)) := hf_ 12 23 _ (by decide) rfl rfl
      have h24 : f_ 24 = (.int .u8 (n1 : Int)) := hf_ 13 24 _ (by decide) rfl rfl
      have h25 : f_ 25 = (.int .u32 (n1 : Int)) := hf_ 14 25 _ (by decide) rfl rfl
      have h26 : f_ 26 = (.int .u32 ((n1 * 65536 : Nat) : Int)) := hf_ 15 26 _ (by decide) rfl rfl
      have h27 : f_ 27 = (.int .u32 (o1 : Int)) := hf_ 16 27 _ (by decide) rfl rfl
      have h28 : f_ 28 = (.slice (some ⟨ba, off, none⟩) 64 c) := hf_ 17 28 _ (by decide) rfl rfl
      have h29 : f_ 29 = (.int .i64 k) := hf_ 18 29 _ (by decide) rfl rfl
      have h30 : f_ 30 = (.int .i64 (p : Int)) := hf_ 19 30 _ (by decide) rfl rfl
      have h31 : f_ 31 = (.int .i64 (p2 : Int)) := hf_ 20 31 _ (by decide) rfl rfl
      have h32 : f_ 32 = (.pointer (some ⟨ba, off + p2, none⟩)) := hf_ 21 32 _ (by decide) rfl rfl
      have h33 : f_ 33 = (.int .u8 (n2 : Int)) := hf_ 22 33 _ (by decide) rfl rfl
      have h34 : f_ 34 = (.int .u32 (n2 : Int)) := hf_ 23 34 _ (by decide) rfl rfl
      have h35 : f_ 35 = (.int .u32 ((n2 * 256 : Nat) : Int)) := hf_ 24 35 _ (by decide) rfl rfl
      have h36 : f_ 36 = (.int .u32 (o2 : Int)) := hf_ 25 36 _ (by decide) rfl rfl
      have h37 : f_ 37 = (.slice (some ⟨ba, off, none⟩) 64 c) := hf_ 26 37 _ (by decide) rfl rfl
      have h38 : f_ 38 = (.int .i64 k) := hf_ 27 38 _ (by decide) rfl rfl
      have h39 : f_ 39 = (.int .i64 (p : Int)) := hf_ 28 39 _ (by decide) rfl rfl
      have h40 : f_ 40 = (.int .i64 (p3 : Int)) := hf_ 29 40 _ (by decide) rfl rfl
      have h41 : f_ 41 = (.pointer (some ⟨ba, off + p3, none⟩)) := hf_ 30 41 _ (by decide) rfl rfl
      have h42 : f_ 42 = (.int .u8 (n3 : Int)) := hf_ 31 42 _ (by decide) rfl rfl
      have h43 : f_ 43 = (.int .u32 (n3 : Int)) := hf_ 32 43 _ (by decide) rfl rfl
      have h44 : f_ 44 = (.int .u32 (val : Int)) := hf_ 33 44 _ (by decide) rfl rfl
      simp only [mix, List.drop_succ_cons, List.drop_zero, h11, h12, h13, h14, h15, h16, h17, h18, h19, h20, h21, h22, h23, h24, h25, h26, h27, h28, h29, h30, h31, h32, h33, h34, h35, h36, h37, h38, h39, h40, h41, h42, h43, h44]
      clear h11 h12 h13 h14 h15 h16 h17 h18 h19 h20 h21 h22 h23 h24 h25 h26 h27 h28 h29 h30 h31 h32 h33 h34 h35 h36 h37 h38 h39 h40 h41 h42 h43 h44
      clear hf_
      have hk3' := hk3.below hx_ hk3.lt
      have hk2' := hk2.below hx_ hk2.lt
      have hput := setCell_put hk3' (i := k) (.int .u32 (val : Int))
      have hset := wcells_set (W := wfirst b k) (by rw [wfirst_length]; omega) val
      rw [wfirst_length, ← HSC.out] at hset
      rw [hset] at hput
      have hgz := hk3'.cell k
      have hfz := hk3'.frozen k
      have hgn : ∃ v, (wcells (wfirst b k))[k]? = some v := ⟨_, Array.getElem?_eq_getElem (by rw [wcells_size (by rw [wfirst_length]; omega)]; omega)⟩
      obtain ⟨v0, hv0⟩ := hgn
      rw [hv0] at hgz
      have hk2n := hput.other hk2' (by omega)
      have hbn := bx_put (bx_trans hbr hx_) hput h3w
      have hk3n := hput.blk
      clear hput hset hk3 hk3' hk2 hk2' hv0
      go_wp2
      go_roundw
      case rel => exact ⟨k + 1, by omega, by go_num, hk2n, hk3n, hbn⟩
      case measure => simp [intOf]; omega
    · obtain rfl : k = 16 := by omega
      have hgs : g3 < wr.heap.size := hk3.lt
      go_wp2
      go_loopw [5] (fun j wq => ∃ q : Nat, q ≤ 48 ∧ j = .int .i64 ((16 + q : Nat) : Int) ∧ Blk wq g2 tW (wcells []) ∧ Blk wq g3 tW (wcells (wmore (wfirst b 16) q)) ∧ Below w.heap.size w wq) (fun j _ => 64 - (intOf j).toNat)
      case atStart => exact ⟨0, by omega, rfl, hk2, hk3, hbr⟩
      case round =>
        obtain ⟨q, hq, rfl, hq2, hq3, hbq⟩ := hrel
        clear hk2 hk3 hbr
        have hlen : (wmore (wfirst b 16) q).length = 16 + q := by rw [wmore_length, wfirst_length]
        have hlt32 := wmore_lt (wfirst_lt b 16) q
        have hnext : wmore (wfirst b 16) (q + 1) = wmore (wfirst b 16) q ++ [wnext (wmore (wfirst b 16) q)] := rfl
        by_cases hltq : q < 48
        · obtain ⟨i, hi⟩ : ∃ i : Nat, i = 16 + q := ⟨_, rfl⟩
          rw [← hi] at hlen ⊢
          have HNX := hid hnext
          clear hnext
          generalize hWW : wmore (wfirst b 16) q = W at *
          have HWW := hid hWW
          clear hWW
          obtain ⟨i2, hi2⟩ : ∃ i2 : Nat, i2 = i - 2 := ⟨_, rfl⟩
          obtain ⟨i7, hi7⟩ : ∃ i7 : Nat, i7 = i - 7 := ⟨_, rfl⟩
          obtain ⟨i15, hi15⟩ : ∃ i15 : Nat, i15 = i - 15 := ⟨_, rfl⟩
          obtain ⟨i16, hi16⟩ : ∃ i16 : Nat, i16 = i - 16 := ⟨_, rfl⟩
          have hwn : wnext W = (W.getD i16 0 + W.getD i7 0 + sg0 (W.getD i15 0) + sg1 (W.getD i2 0)) % 4294967296 := by unfold wnext; rw [hlen, hi16, hi7, hi15, hi2]
          have e2 : (i : Int) - 2 = (i2 : Int) := by omega
          have e7 : (i : Int) - 7 = (i7 : Int) := by omega
          have e15 : (i : Int) - 15 = (i15 : Int) := by omega
          have e16 : (i : Int) - 16 = (i16 : Int) := by omega
          have hc2 := (hq3.cell i2).trans (wcells_get (by omega))
          have hc7 := (hq3.cell i7).trans (wcells_get (by omega))
          have hc15 := (hq3.cell i15).trans (wcells_get (by omega))
          have hc16 := (hq3.cell i16).trans (wcells_get (by omega))
          have hl2 : (i2 : Int) < 64 := by omega
          have hl7 : (i7 : Int) < 64 := by omega
          have hl15 : (i15 : Int) < 64 := by omega
          have hl16 : (i16 : Int) < 64 := by omega
          have hy32 := hlt32.getD i2
          have hd32 := hlt32.getD i7
          have hx32 := hlt32.getD i15
          have ha32 := hlt32.getD i16
          have hset := wcells_set (W := W) (by omega) (wnext W)
          rw [hlen] at hset
          have hval := wnext_lt W
          have hi64 : i < 64 := by omega
          have HSET := hid hset
          have HI := hid hi
          have hg3q : g3 < wr.heap.size := hq3.lt
          clear hset hi hi2 hi7 hi15 hi16 hlen
          generalize wnext W = val at *
          generalize W.getD i2 0 = y at *
          generalize W.getD i7 0 = d at *
          generalize W.getD i15 0 = x at *
          generalize W.getD i16 0 = a at *
          obtain ⟨o3, ho3⟩ : ∃ o3 : Nat, o3 = (a + d) % 4294967296 := ⟨_, rfl⟩
          obtain ⟨o4, ho4⟩ : ∃ o4 : Nat, o4 = (o3 + sg0 x) % 4294967296 := ⟨_, rfl⟩
          have hv : val = (o4 + sg1 y) % 4294967296 := by rw [hwn, ho4, ho3]; omega
          have HO3 := hid ho3
          have HO4 := hid ho4
          have HV := hid hv
          obtain ⟨s1, hs1⟩ : ∃ s1 : Nat, s1 = rot x 7 ^^^ rot x 18 := ⟨_, rfl⟩
          obtain ⟨s2, hs2⟩ : ∃ s2 : Nat, s2 = rot y 17 ^^^ rot y 19 := ⟨_, rfl⟩
          have hs1l : s1 < 4294967296 := by rw [hs1]; exact xr_lt32 (rot_lt hx32) (rot_lt hx32)
          have hs2l : s2 < 4294967296 := by rw [hs2]; exact xr_lt32 (rot_lt hy32) (rot_lt hy32)
          have hg0 : sg0 x = s1 ^^^ (x / 8) := by rw [hs1]; rfl
          have hg1 : sg1 y = s2 ^^^ (y / 1024) := by rw [hs2]; rfl
          have HS1 := hid hs1
          have HS2 := hid hs2
          have HG0 := hid hg0
          have HG1 := hid hg1
          clear ho3 ho4 hv hwn hs1 hs2 hg0 hg1
          go_wp2_with fail
          refine wp_flow (by kernel_rfl) [0, 1, 3, 7, 0, 16, 48, 112, 15, 511] 10 [false, false, false, false, false, false, true, true, false, false, false, false, false, false, false, false, false, false, false, false, false, false, false, false, false, false, false, false, false, false, false, false, false, false, false, false, false, false, false, false, false, false, false, false, false, false, false, false, false, false, false, true, true, true, true, true, true, true, true] (by kernel_rfl) (by decide) (by kernel_rfl) [FP.eq (.int .i64 i), FP.eq (.int .i64 (i15 : Int)), FP.eq (.pointer (some ⟨g3, i15, none⟩)), FP.eq (.int .u32 (x : Int)), FP.eq (.int .i64 i), FP.eq (.int .i64 (i2 : Int)), FP.eq (.pointer (some ⟨g3, i2, none⟩)), FP.eq (.int .u32 (y : Int)), FP.eq (.int .u32 (x : Int)), FP.eq (.int .u32 (y : Int))] ?_ ?_
          · refine allFrom_cons ?_ ?_
            · intro a_ w_ hk_
              have h5 : a_.eval (.tmp 5) = .int .i64 i := hk_.old 5 (by kernel_rfl)
              have hx_ := hk_.ext
              clear hk_
              refine flow_plain rfl ?_
              exact gives_move rfl ⟨Below.refl _ _, h5⟩
            refine allFrom_cons ?_ ?_
            · intro a_ w_ hk_
              have h51 : a_.eval (.tmp 51) = (.int .i64 i) := hk_.got 0 51 _ (by kernel_rfl) rfl rfl
              have hx_ := hk_.ext
              clear hk_
              refine flow_plain rfl ?_
              unfold gives
              have hc_ : ∀ v, a_.eval (.const v) = v := fun _ => rfl
              have hn_ : ∀ f, a_.eval (.func f) = .func (.func f) #[] #[] := fun _ => rfl
              generalize a_.eval = ρ_ at *
              go_simp
              exact ⟨Below.refl _ _, congrArg (Value.int _) (wr_i64 _ (by omega) (by omega))⟩
            refine allFrom_cons ?_ ?_
            · intro a_ w_ hk_
              have h3 : a_.eval (.tmp 3) = .pointer (some ⟨g3, 0, none⟩) := hk_.old 3 (by kernel_rfl)
              have h52 : a_.eval (.tmp 52) = (.int .i64 (i15 : Int)) := hk_.got 1 52 _ (by kernel_rfl) rfl rfl
              have hx_ := hk_.ext
              clear hk_
              refine flow_plain rfl ?_
              unfold gives
              have hc_ : ∀ v, a_.eval (.const v) = v := fun _ => rfl
              have hn_ : ∀ f, a_.eval (.func f) = .func (.func f) #[] #[] := fun _ => rfl
              generalize a_.eval = ρ_ at *
              go_simp
              exact ⟨Below.refl _ _, rfl⟩
            refine allFrom_cons ?_ ?_
            · intro a_ w_ hk_
              have h53 : a_.eval (.tmp 53) = (.pointer (some ⟨g3, i15, none⟩)) := hk_.got 2 53 _ (by kernel_rfl) rfl rfl
              have hx_ := hk_.ext
              clear hk_
              refine flow_plain rfl ?_
              unfold gives
              have hc_ : ∀ v, a_.eval (.const v) = v := fun _ => rfl
              have hn_ : ∀ f, a_.eval (.func f) = .func (.func f) #[] #[] := fun _ => rfl
              have hcell := (hx_.cell (p := ⟨g3, i15, none⟩) hg3q).trans hc15
              generalize a_.eval = ρ_ at *
              go_simp
              exact ⟨Below.refl _ _, rfl⟩
            refine allFrom_cons ?_ ?_
            · intro a_ w_ hk_
              have h5 : a_.eval (.tmp 5) = .int .i64 i := hk_.old 5 (by kernel_rfl)
              have hx_ := hk_.ext
              clear hk_
              refine flow_plain rfl ?_
              exact gives_move rfl ⟨Below.refl _ _, h5⟩
            refine allFrom_cons ?_ ?_
            · intro a_ w_ hk_
              have h55 : a_.eval (.tmp 55) = (.int .i64 i) := hk_.got 4 55 _ (by kernel_rfl) rfl rfl
              have hx_ := hk_.ext
              clear hk_
              refine flow_plain rfl ?_
              unfold gives
              have hc_ : ∀ v, a_.eval (.const v) = v := fun _ => rfl
              have hn_ : ∀ f, a_.eval (.func f) = .func (.func f) #[] #[] := fun _ => rfl
              generalize a_.eval = ρ_ at *
              go_simp
              exact ⟨Below.refl _ _, congrArg (Value.int _) (wr_i64 _ (by omega) (by omega))⟩
            refine allFrom_cons ?_ ?_
            · intro a_ w_ hk_
              have h3 : a_.eval (.tmp 3) = .pointer (some ⟨g3, 0, none⟩) := hk_.old 3 (by kernel_rfl)
              have h56 : a_.eval (.tmp 56) = (.int .i64 (i2 : Int)) := hk_.got 5 56 _ (by kernel_rfl) rfl rfl
              have hx_ := hk_.ext
              clear hk_
              refine flow_plain rfl ?_
              unfold gives
              have hc_ : ∀ v, a_.eval (.const v) = v := fun _ => rfl
              have hn_ : ∀ f, a_.eval (.func f) = .func (.func f) #[] #[] := fun _ => rfl
              generalize a_.eval = ρ_ at *
              go_simp
              exact ⟨Below.refl _ _, rfl⟩
            refine allFrom_cons ?_ ?_
            · intro a_ w_ hk_
              have h57 : a_.eval (.tmp 57) = (.pointer (some ⟨g3, i2, none⟩)) := hk_.got 6 57 _ (by kernel_rfl) rfl rfl
              have hx_ := hk_.ext
              clear hk_
              refine flow_plain rfl ?_
              unfold gives
              have hc_ : ∀ v, a_.eval (.const v) = v := fun _ => rfl
              have hn_ : ∀ f, a_.eval (.func f) = .func (.func f) #[] #[] := fun _ => rfl
              have hcell := (hx_.cell (p := ⟨g3, i2, none⟩) hg3q).trans hc2
              generalize a_.eval = ρ_ at *
              go_simp
              exact ⟨Below.refl _ _, rfl⟩
            refine allFrom_cons ?_ ?_
            · intro a_ w_ hk_
              have h54 : a_.eval (.tmp 54) = (.int .u32 (x : Int)) := hk_.got 3 54 _ (by kernel_rfl) rfl rfl
              have hx_ := hk_.ext
              clear hk_
              refine flow_plain rfl ?_
              exact gives_assign rfl ⟨Below.refl _ _, h54⟩
            refine allFrom_cons ?_ ?_
            · intro a_ w_ hk_
              have h58 : a_.eval (.tmp 58) = (.int .u32 (y : Int)) := hk_.got 7 58 _ (by kernel_rfl) rfl rfl
              have hx_ := hk_.ext
              clear hk_
              refine flow_plain rfl ?_
              exact gives_assign rfl ⟨Below.refl _ _, h58⟩
            exact allFrom_nil
          intro f_ w_ hx_ hf_
          have h51 : f_ 51 = (.int .i64 i) := hf_ 0 51 _ (by decide) rfl rfl
          have h52 : f_ 52 = (.int .i64 (i15 : Int)) := hf_ 1 52 _ (by decide) rfl rfl
          have h53 : f_ 53 = (.pointer (some ⟨g3, i15, none⟩)) := hf_ 2 53 _ (by decide) rfl rfl
          have h54 : f_ 54 = (.int .u32 (x : Int)) := hf_ 3 54 _ (by decide) rfl rfl
          have h55 : f_ 55 = (.int .i64 i) := hf_ 4 55 _ (by decide) rfl rfl
          have h56 : f_ 56 = (.int .i64 (i2 : Int)) := hf_ 5 56 _ (by decide) rfl rfl
          have h57 : f_ 57 = (.pointer (some ⟨g3, i2, none⟩)) := hf_ 6 57 _ (by decide) rfl rfl
          have h58 : f_ 58 = (.int .u32 (y : Int)) := hf_ 7 58 _ (by decide) rfl rfl
          have h6 : f_ 6 = (.int .u32 (x : Int)) := hf_ 8 6 _ (by decide) rfl rfl
          have h7 : f_ 7 = (.int .u32 (y : Int)) := hf_ 9 7 _ (by decide) rfl rfl
          simp only [mix, List.drop_succ_cons, List.drop_zero, h51, h52, h53, h54, h55, h56, h57, h58, h6, h7]
          clear h51 h52 h53 h54 h55 h56 h57 h58 h6 h7
          clear hf_
          have hC16 := (hx_.cell (p := ⟨g3, i16, none⟩) hg3q).trans hc16
          have hC7 := (hx_.cell (p := ⟨g3, i7, none⟩) hg3q).trans hc7
          have hA2 := hq2.below hx_ hq2.lt
          have hA3 := hq3.below hx_ hq3.lt
          have hBA := bx_trans hbq hx_
          clear hc2 hc7 hc15 hc16 hq2 hq3 hbq hg3q hx_
          generalize w_ = wa at *
          have hg3q : g3 < wa.heap.size := hA3.lt
          go_wp2_with fail
          refine wp_flow (by kernel_rfl) [0, 0, 2, 6, 14, 0, 32, 96, 224, 510, 0, 1024, 0, 7168, 15360, 0, 32768, 130048, 262142, 0, 539648, 0, 3685376, 7879680, 0, 16777216, 66599936, 134217726, 268435455, 536870911] 28 [false, false, false, false, false, false, false, false, false, false, false, false, false, false, false, false, false, false, false, false, false, false, false, false, false, false, false, false, false, false, false, false, false, false, false, false, false, false, false, false, false, false, false, false, false, false, false, false, false, false, false, false, false, false, false, false, false, false, false, true, true, true, true, true, true, true, true, true, true, true, true, true, true, true, true, true, true, true, true, true, true, true, true, true, true, true, true, false] (by kernel_rfl) (by decide) (by kernel_rfl) [FP.eq (.int .i64 i), FP.eq (.int .i64 i), FP.eq (.int .i64 (i16 : Int)), FP.eq (.pointer (some ⟨g3, i16, none⟩)), FP.eq (.int .u32 (a : Int)), FP.eq (.int .i64 i), FP.eq (.int .i64 (i7 : Int)), FP.eq (.pointer (some ⟨g3, i7, none⟩)), FP.eq (.int .u32 (d : Int)), FP.eq (.int .u32 (o3 : Int)), FP.eq (.int .u32 (x : Int)), FP.eq (.int .u32 ((rot x 7 : Nat) : Int)), FP.eq (.int .u32 (x : Int)), FP.eq (.int .u32 ((rot x 18 : Nat) : Int)), FP.eq (.int .u32 (s1 : Int)), FP.eq (.int .u32 (x : Int)), FP.eq (.int .u32 ((x / 8 : Nat) : Int)), FP.eq (.int .u32 ((sg0 x : Nat) : Int)), FP.eq (.int .u32 (o4 : Int)), FP.eq (.int .u32 (y : Int)), FP.eq (.int .u32 ((rot y 17 : Nat) : Int)), FP.eq (.int .u32 (y : Int)), FP.eq (.int .u32 ((rot y 19 : Nat) : Int)), FP.eq (.int .u32 (s2 : Int)), FP.eq (.int .u32 (y : Int)), FP.eq (.int .u32 ((y / 1024 : Nat) : Int)), FP.eq (.int .u32 ((sg1 y : Nat) : Int)), FP.eq (.int .u32 (val : Int))] ?_ ?_
          · refine allFrom_cons ?_ ?_
            · intro a_ w_ hk_
              have h5 : a_.eval (.tmp 5) = .int .i64 i := hk_.old 5 (by kernel_rfl)
              have hx_ := hk_.ext
              clear hk_
              refine flow_plain rfl ?_
              exact gives_move rfl ⟨Below.refl _ _, h5⟩
            refine allFrom_cons ?_ ?_
            · intro a_ w_ hk_
              have h5 : a_.eval (.tmp 5) = .int .i64 i := hk_.old 5 (by kernel_rfl)
              have hx_ := hk_.ext
              clear hk_
              refine flow_plain rfl ?_
              exact gives_move rfl ⟨Below.refl _ _, h5⟩
            refine allFrom_cons ?_ ?_
            · intro a_ w_ hk_
              have h60 : a_.eval (.tmp 60) = (.int .i64 i) := hk_.got 1 60 _ (by kernel_rfl) rfl rfl
              have hx_ := hk_.ext
              clear hk_
              refine flow_plain rfl ?_
              unfold gives
              have hc_ : ∀ v, a_.eval (.const v) = v := fun _ => rfl
              have hn_ : ∀ f, a_.eval (.func f) = .func (.func f) #[] #[] := fun _ => rfl
              generalize a_.eval = ρ_ at *
              go_simp
              exact ⟨Below.refl _ _, congrArg (Value.int _) (wr_i64 _ (by omega) (by omega))⟩
            refine allFrom_cons ?_ ?_
            · intro a_ w_ hk_
              have h3 : a_.eval (.tmp 3) = .pointer (some ⟨g3, 0, none⟩) := hk_.old 3 (by kernel_rfl)
              have h61 : a_.eval (.tmp 61) = (.int .i64 (i16 : Int)) := hk_.got 2 61 _ (by kernel_rfl) rfl rfl
              have hx_ := hk_.ext
              clear hk_
              refine flow_plain rfl ?_
              unfold gives
              have hc_ : ∀ v, a_.eval (.const v) = v := fun _ => rfl
              have hn_ : ∀ f, a_.eval (.func f) = .func (.func f) #[] #[] := fun _ => rfl
              generalize a_.eval = ρ_ at *
              go_simp
              exact ⟨Below.refl _ _, rfl⟩
            refine allFrom_cons ?_ ?_
            · intro a_ w_ hk_
              have h62 : a_.eval (.tmp 62) = (.pointer (some ⟨g3, i16, none⟩)) := hk_.got 3 62 _ (by kernel_rfl) rfl rfl
              have hx_ := hk_.ext
              clear hk_
              refine flow_plain rfl ?_
              unfold gives
              have hc_ : ∀ v, a_.eval (.const v) = v := fun _ => rfl
              have hn_ : ∀ f, a_.eval (.func f) = .func (.func f) #[] #[] := fun _ => rfl
              have hcell := (hx_.cell (p := ⟨g3, i16, none⟩) hg3q).trans hC16
              generalize a_.eval = ρ_ at *
              go_simp
              exact ⟨Below.refl _ _, rfl⟩
            refine allFrom_cons ?_ ?_
            · intro a_ w_ hk_
              have h5 : a_.eval (.tmp 5) = .int .i64 i := hk_.old 5 (by kernel_rfl)
              have hx_ := hk_.ext
              clear hk_
              refine flow_plain rfl ?_
              exact gives_move rfl ⟨Below.refl _ _, h5⟩
            refine allFrom_cons ?_ ?_
            · intro a_ w_ hk_
              have h64 : a_.eval (.tmp 64) = (.int .i64 i) := hk_.got 5 64 _ (by kernel_rfl) rfl rfl
              have hx_ := hk_.ext
              clear hk_
              refine flow_plain rfl ?_
              unfold gives
              have hc_ : ∀ v, a_.eval (.const v) = v := fun _ => rfl
              have hn_ : ∀ f, a_.eval (.func f) = .func (.func f) #[] #[] := fun _ => rfl
              generalize a_.eval = ρ_ at *
              go_simp
              exact ⟨Below.refl _ _, congrArg (Value.int _) (wr_i64 _ (by omega) (by omega))⟩
            refine allFrom_cons ?_ ?_
            · intro a_ w_ hk_
              have h3 : a_.eval (.tmp 3) = .pointer (some ⟨g3, 0, none⟩) := hk_.old 3 (by kernel_rfl)
              have h65 : a_.eval (.tmp 65) = (.int .i64 (i7 : Int)) := hk_.got 6 65 _ (by kernel_rfl) rfl rfl
              have hx_ := hk_.ext
              clear hk_
              refine flow_plain rfl ?_
              unfold gives
              have hc_ : ∀ v, a_.eval (.const v) = v := fun _ => rfl
              have hn_ : ∀ f, a_.eval (.func f) = .func (.func f) #[] #[] := fun _ => rfl
              generalize a_.eval = ρ_ at *
              go_simp
              exact ⟨Below.refl _ _, rfl⟩
            refine allFrom_cons ?_ ?_
            · intro a_ w_ hk_
              have h66 : a_.eval (.tmp 66) = (.pointer (some ⟨g3, i7, none⟩)) := hk_.got 7 66 _ (by kernel_rfl) rfl rfl
              have hx_ := hk_.ext
              clear hk_
              refine flow_plain rfl ?_
              unfold gives
              have hc_ : ∀ v, a_.eval (.const v) = v := fun _ => rfl
              have hn_ : ∀ f, a_.eval (.func f) = .func (.func f) #[] #[] := fun _ => rfl
              have hcell := (hx_.cell (p := ⟨g3, i7, none⟩) hg3q).trans hC7
              generalize a_.eval = ρ_ at *
              go_simp
              exact ⟨Below.refl _ _, rfl⟩
            refine allFrom_cons ?_ ?_
            · intro a_ w_ hk_
              have h63 : a_.eval (.tmp 63) = (.int .u32 (a : Int)) := hk_.got 4 63 _ (by kernel_rfl) rfl rfl
              have h67 : a_.eval (.tmp 67) = (.int .u32 (d : Int)) := hk_.got 8 67 _ (by kernel_rfl) rfl rfl
              have hx_ := hk_.ext
              clear hk_
              refine flow_plain rfl ?_
              unfold gives
              have hc_ : ∀ v, a_.eval (.const v) = v := fun _ => rfl
              have hn_ : ∀ f, a_.eval (.func f) = .func (.func f) #[] #[] := fun _ => rfl
              generalize a_.eval = ρ_ at *
              go_simp
              exact ⟨Below.refl _ _, congrArg (Value.int _) (add_w rfl rfl HO3.out)⟩
            refine allFrom_cons ?_ ?_
            · intro a_ w_ hk_
              have h6 : a_.eval (.tmp 6) = .int .u32 (x : Int) := hk_.old 6 (by kernel_rfl)
              have hx_ := hk_.ext
              clear hk_
              refine flow_plain rfl ?_
              exact gives_move rfl ⟨Below.refl _ _, h6⟩
            refine allFrom_cons ?_ ?_
            · intro a_ w_ hk_
              have h69 : a_.eval (.tmp 69) = (.int .u32 (x : Int)) := hk_.got 10 69 _ (by kernel_rfl) rfl rfl
              have hx_ := hk_.ext
              clear hk_
              refine flow_plain rfl ?_
              unfold gives
              have hc_ : ∀ v, a_.eval (.const v) = v := fun _ => rfl
              have hn_ : ∀ f, a_.eval (.func f) = .func (.func f) #[] #[] := fun _ => rfl
              generalize a_.eval = ρ_ at *
              go_simp
              exact (down_any _ x 7 hx32 (by omega) (by omega)).mono fun e w' ⟨h1, h2⟩ => ⟨_, h1, by subst h2; exact Below.refl _ _, rfl⟩
            refine allFrom_cons ?_ ?_
            · intro a_ w_ hk_
              have h6 : a_.eval (.tmp 6) = .int .u32 (x : Int) := hk_.old 6 (by kernel_rfl)
              have hx_ := hk_.ext
              clear hk_
              refine flow_plain rfl ?_
              exact gives_move rfl ⟨Below.refl _ _, h6⟩
            refine allFrom_cons ?_ ?_
            · intro a_ w_ hk_
              have h71 : a_.eval (.tmp 71) = (.int .u32 (x : Int)) := hk_.got 12 71 _ (by kernel_rfl) rfl rfl
              have hx_ := hk_.ext
              clear hk_
              refine flow_plain rfl ?_
              unfold gives
              have hc_ : ∀ v, a_.eval (.const v) = v := fun _ => rfl
              have hn_ : ∀ f, a_.eval (.func f) = .func (.func f) #[] #[] := fun _ => rfl
              generalize a_.eval = ρ_ at *
              go_simp
              exact (down_any _ x 18 hx32 (by omega) (by omega)).mono fun e w' ⟨h1, h2⟩ => ⟨_, h1, by subst h2; exact Below.refl _ _, rfl⟩
            refine allFrom_cons ?_ ?_
            · intro a_ w_ hk_
              have h70 : a_.eval (.tmp 70) = (.int .u32 ((rot x 7 : Nat) : Int)) := hk_.got 11 70 _ (by kernel_rfl) rfl rfl
              have h72 : a_.eval (.tmp 72) = (.int .u32 ((rot x 18 : Nat) : Int)) := hk_.got 13 72 _ (by kernel_rfl) rfl rfl
              have hx_ := hk_.ext
              clear hk_
              refine flow_plain rfl ?_
              unfold gives
              have hc_ : ∀ v, a_.eval (.const v) = v := fun _ => rfl
              have hn_ : ∀ f, a_.eval (.func f) = .func (.func f) #[] #[] := fun _ => rfl
              generalize a_.eval = ρ_ at *
              go_simp
              exact ⟨Below.refl _ _, congrArg (Value.int _) (xor_w rfl rfl HS1.out (rot_lt hx32) (rot_lt hx32))⟩
            refine allFrom_cons ?_ ?_
            · intro a_ w_ hk_
              have h6 : a_.eval (.tmp 6) = .int .u32 (x : Int) := hk_.old 6 (by kernel_rfl)
              have hx_ := hk_.ext
              clear hk_
              refine flow_plain rfl ?_
              exact gives_move rfl ⟨Below.refl _ _, h6⟩
            refine allFrom_cons ?_ ?_
            · intro a_ w_ hk_
              have h74 : a_.eval (.tmp 74) = (.int .u32 (x : Int)) := hk_.got 15 74 _ (by kernel_rfl) rfl rfl
              have hx_ := hk_.ext
              clear hk_
              refine flow_plain rfl ?_
              unfold gives
              have hc_ : ∀ v, a_.eval (.const v) = v := fun _ => rfl
              have hn_ : ∀ f, a_.eval (.func f) = .func (.func f) #[] #[] := fun _ => rfl
              generalize a_.eval = ρ_ at *
              go_simp
              exact ⟨Below.refl _ _, rfl⟩
            refine allFrom_cons ?_ ?_
            · intro a_ w_ hk_
              have h73 : a_.eval (.tmp 73) = (.int .u32 (s1 : Int)) := hk_.got 14 73 _ (by kernel_rfl) rfl rfl
              have h75 : a_.eval (.tmp 75) = (.int .u32 ((x / 8 : Nat) : Int)) := hk_.got 16 75 _ (by kernel_rfl) rfl rfl
              have hx_ := hk_.ext
              clear hk_
              refine flow_plain rfl ?_
              unfold gives
              have hc_ : ∀ v, a_.eval (.const v) = v := fun _ => rfl
              have hn_ : ∀ f, a_.eval (.func f) = .func (.func f) #[] #[] := fun _ => rfl
              generalize a_.eval = ρ_ at *
              go_simp
              exact ⟨Below.refl _ _, congrArg (Value.int _) (xor_w rfl (by omega) HG0.out hs1l (by omega))⟩
            refine allFrom_cons ?_ ?_
            · intro a_ w_ hk_
              have h68 : a_.eval (.tmp 68) = (.int .u32 (o3 : Int)) := hk_.got 9 68 _ (by kernel_rfl) rfl rfl
              have h76 : a_.eval (.tmp 76) = (.int .u32 ((sg0 x : Nat) : Int)) := hk_.got 17 76 _ (by kernel_rfl) rfl rfl
              have hx_ := hk_.ext
              clear hk_
              refine flow_plain rfl ?_
              unfold gives
              have hc_ : ∀ v, a_.eval (.const v) = v := fun _ => rfl
              have hn_ : ∀ f, a_.eval (.func f) = .func (.func f) #[] #[] := fun _ => rfl
              generalize a_.eval = ρ_ at *
              go_simp
              exact ⟨Below.refl _ _, congrArg (Value.int _) (add_w rfl rfl HO4.out)⟩
            refine allFrom_cons ?_ ?_
            · intro a_ w_ hk_
              have h7 : a_.eval (.tmp 7) = .int .u32 (y : Int) := hk_.old 7 (by kernel_rfl)
              have hx_ := hk_.ext
              clear hk_
              refine flow_plain rfl ?_
              exact gives_move rfl ⟨Below.refl _ _, h7⟩
            refine allFrom_cons ?_ ?_
            · intro a_ w_ hk_
              have h78 : a_.eval (.tmp 78) = (.int .u32 (y : Int)) := hk_.got 19 78 _ (by kernel_rfl) rfl rfl
              have hx_ := hk_.ext
              clear hk_
              refine flow_plain rfl ?_
              unfold gives
              have hc_ : ∀ v, a_.eval (.const v) = v := fun _ => rfl
              have hn_ : ∀ f, a_.eval (.func f) = .func (.func f) #[] #[] := fun _ => rfl
              generalize a_.eval = ρ_ at *
              go_simp
              exact (down_any _ y 17 hy32 (by omega) (by omega)).mono fun e w' ⟨h1, h2⟩ => ⟨_, h1, by subst h2; exact Below.refl _ _, rfl⟩
            refine allFrom_cons ?_ ?_
            · intro a_ w_ hk_
              have h7 : a_.eval (.tmp 7) = .int .u32 (y : Int) := hk_.old 7 (by kernel_rfl)
              have hx_ := hk_.ext
              clear hk_
              refine flow_plain rfl ?_
              exact gives_move rfl ⟨Below.refl _ _, h7⟩
            refine allFrom_cons ?_ ?_
            · intro a_ w_ hk_
              have h80 : a_.eval (.tmp 80) = (.int .u32 (y : Int)) := hk_.got 21 80 _ (by kernel_rfl) rfl rfl
              have hx_ := hk_.ext
              clear hk_
              refine flow_plain rfl ?_
              unfold gives
              have hc_ : ∀ v, a_.eval (.const v) = v := fun _ => rfl
              have hn_ : ∀ f, a_.eval (.func f) = .func (.func f) #[] #[] := fun _ => rfl
              generalize a_.eval = ρ_ at *
              go_simp
              exact (down_any _ y 19 hy32 (by omega) (by omega)).mono fun e w' ⟨h1, h2⟩ => ⟨_, h1, by subst h2; exact Below.refl _ _, rfl⟩
            refine allFrom_cons ?_ ?_
            · intro a_ w_ hk_
              have h79 : a_.eval (.tmp 79) = (.int .u32 ((rot y 17 : Nat) : Int)) := hk_.got 20 79 _ (by kernel_rfl) rfl rfl
              have h81 : a_.eval (.tmp 81) = (.int .u32 ((rot y 19 : Nat) : Int)) := hk_.got 22 81 _ (by kernel_rfl) rfl rfl
              have hx_ := hk_.ext
              clear hk_
              refine flow_plain rfl ?_
              unfold gives
              have hc_ : ∀ v, a_.eval (.const v) = v := fun _ => rfl
              have hn_ : ∀ f, a_.eval (.func f) = .func (.func f) #[] #[] := fun _ => rfl
              generalize a_.eval = ρ_ at *
              go_simp
              exact ⟨Below.refl _ _, congrArg (Value.int _) (xor_w rfl rfl HS2.out (rot_lt hy32) (rot_lt hy32))⟩
            refine allFrom_cons ?_ ?_
            · intro a_ w_ hk_
              have h7 : a_.eval (.tmp 7) = .int .u32 (y : Int) := hk_.old 7 (by kernel_rfl)
              have hx_ := hk_.ext
              clear hk_
              refine flow_plain rfl ?_
              exact gives_move rfl ⟨Below.refl _ _, h7⟩
            refine allFrom_cons ?_ ?_
            · intro a_ w_ hk_
              have h83 : a_.eval (.tmp 83) = (.int .u32 (y : Int)) := hk_.got 24 83 _ (by kernel_rfl) rfl rfl
              have hx_ := hk_.ext
              clear hk_
              refine flow_plain rfl ?_
              unfold gives
              have hc_ : ∀ v, a_.eval (.const v) = v := fun _ => rfl
              have hn_ : ∀ f, a_.eval (.func f) = .func (.func f) #[] #[] := fun _ => rfl
              generalize a_.eval = ρ_ at *
              go_simp
              exact ⟨Below.refl _ _, rfl⟩
            refine allFrom_cons ?_ ?_
            · intro a_ w_ hk_
              have h82 : a_.eval (.tmp 82) = (.int .u32 (s2 : Int)) := hk_.got 23 82 _ (by kernel_rfl) rfl rfl
              have h84 : a_.eval (.tmp 84) = (.int .u32 ((y / 1024 : Nat) : Int)) := hk_.got 25 84 _ (by kernel_rfl) rfl rfl
              have hx_ := hk_.ext
              clear hk_
              refine flow_plain rfl ?_
              unfold gives
              have hc_ : ∀ v, a_.eval (.const v) = v := fun _ => rfl
              have hn_ : ∀ f, a_.eval (.func f) = .func (.func f) #[] #[] := fun _ => rfl
              generalize a_.eval = ρ_ at *
              go_simp
              exact ⟨Below.refl _ _, congrArg (Value.int _) (xor_w rfl (by omega) HG1.out hs2l (by omega))⟩
            refine allFrom_cons ?_ ?_
            · intro a_ w_ hk_
              have h77 : a_.eval (.tmp 77) = (.int .u32 (o4 : Int)) := hk_.got 18 77 _ (by kernel_rfl) rfl rfl
              have h85 : a_.eval (.tmp 85) = (.int .u32 ((sg1 y : Nat) : Int)) := hk_.got 26 85 _ (by kernel_rfl) rfl rfl
              have hx_ := hk_.ext
              clear hk_
              refine flow_plain rfl ?_
              unfold gives
              have hc_ : ∀ v, a_.eval (.const v) = v := fun _ => rfl
              have hn_ : ∀ f, a_.eval (.func f) = .func (.func f) #[] #[] := fun _ => rfl
              generalize a_.eval = ρ_ at *
              go_simp
              exact ⟨Below.refl _ _, congrArg (Value.int _) (add_w rfl rfl HV.out)⟩
            exact allFrom_nil
          intro f_ w_ hx_ hf_
          have h59 : f_ 59 = (.int .i64 i) := hf_ 0 59 _ (by decide) rfl rfl
          have h60 : f_ 60 = (.int .i64 i) := hf_ 1 60 _ (by decide) rfl rfl
          have h61 : f_ 61 = (.int .i64 (i16 : Int)) := hf_ 2 61 _ (by decide) rfl rfl
          have h62 : f_ 62 = (.pointer (some ⟨g3, i16, none⟩)) := hf_ 3 62 _ (by decide) rfl rfl
          have h63 : f_ 63 = (.int .u32 (a : Int)) := hf_ 4 63 _ (by decide) rfl rfl
          have h64 : f_ 64 = (.int .i64 i) := hf_ 5 64 _ (by decide) rfl rfl
          have h65 : f_ 65 = (.int .i64 (i7 : Int)) := hf_ 6 65 _ (by decide) rfl rfl
          have h66 : f_ 66 = (.pointer (some ⟨g3, i7, none⟩)) := hf_ 7 66 _ (by decide) rfl rfl
          have h67 : f_ 67 = (.int .u32 (d : Int)) := hf_ 8 67 _ (by decide) rfl rfl
          have h68 : f_ 68 = (.int .u32 (o3 : Int)) := hf_ 9 68 _ (by decide) rfl rfl
          have h69 : f_ 69 = (.int .u32 (x : Int)) := hf_ 10 69 _ (by decide) rfl rfl
          have h70 : f_ 70 = (.int .u32 ((rot x 7 : Nat) : Int)) := hf_ 11 70 _ (by decide) rfl rfl
          have h71 : f_ 71 = (.int .u32 (x : Int)) := hf_ 12 71 _ (by decide) rfl rfl
          have h72 : f_ 72 = (.int .u32 ((rot x 18 : Nat) : Int)) := hf_ 13 72 _ (by decide) rfl rfl
          have h73 : f_ 73 = (.int .u32 (s1 : Int)) := hf_ 14 73 _ (by decide) rfl rfl
          have h74 : f_ 74 = (.int .u32 (x : Int)) := hf_ 15 74 _ (by decide) rfl rfl
          have h75 : f_ 75 = (.int .u32 ((x / 8 : Nat) : Int)) := hf_ 16 75 _ (by decide) rfl rfl
          have h76 : f_ 76 = (.int .u32 ((sg0 x : Nat) : Int)) := hf_ 17 76 _ (by decide) rfl rfl
          have h77 : f_ 77 = (.int .u32 (o4 : Int)) := hf_ 18 77 _ (by decide) rfl rfl
          have h78 : f_ 78 = (.int .u32 (y : Int)) := hf_ 19 78 _ (by decide) rfl rfl
          have h79 : f_ 79 = (.int .u32 ((rot y 17 : Nat) : Int)) := hf_ 20 79 _ (by decide) rfl rfl
          have h80 : f_ 80 = (.int .u32 (y : Int)) := hf_ 21 80 _ (by decide) rfl rfl
          have h81 : f_ 81 = (.int .u32 ((rot y 19 : Nat) : Int)) := hf_ 22 81 _ (by decide) rfl rfl
          have h82 : f_ 82 = (.int .u32 (s2 : Int)) := hf_ 23 82 _ (by decide) rfl rfl
          have h83 : f_ 83 = (.int .u32 (y : Int)) := hf_ 24 83 _ (by decide) rfl rfl
          have h84 : f_ 84 = (.int .u32 ((y / 1024 : Nat) : Int)) := hf_ 25 84 _ (by decide) rfl rfl
          have h85 : f_ 85 = (.int .u32 ((sg1 y : Nat) : Int)) := hf_ 26 85 _ (by decide) rfl rfl
          have h86 : f_ 86 = (.int .u32 (val : Int)) := hf_ 27 86 _ (by decide) rfl rfl
          simp only [mix, List.drop_succ_cons, List.drop_zero, h59, h60, h61, h62, h63, h64, h65, h66, h67, h68, h69, h70, h71, h72, h73, h74, h75, h76, h77, h78, h79, h80, h81, h82, h83, h84, h85, h86]
          clear h59 h60 h61 h62 h63 h64 h65 h66 h67 h68 h69 h70 h71 h72 h73 h74 h75 h76 h77 h78 h79 h80 h81 h82 h83 h84 h85 h86
          clear hf_
          have hk3' := hA3.below hx_ hA3.lt
          have hk2' := hA2.below hx_ hA2.lt
          have hput := setCell_put hk3' (i := i) (.int .u32 (val : Int))
          rw [HSET.out, ← HNX.out] at hput
          have hgz := hk3'.cell i
          have hfz := hk3'.frozen i
          have hlW : W.length = i := by rw [← HWW.out, wmore_length, wfirst_length, HI.out]
          have hgn : ∃ v, (wcells W)[i]? = some v := ⟨_, Array.getElem?_eq_getElem (by rw [wcells_size (by omega)]; omega)⟩
          obtain ⟨v0, hv0⟩ := hgn
          rw [hv0] at hgz
          have hk2n := hput.other hk2' (by omega)
          have hbn := bx_put (bx_trans hBA hx_) hput h3w
          have hk3n := hput.blk
          clear hput hA3 hk3' hA2 hk2' hv0 hlW
          go_wp2
          have hie := HI.out
          subst hie
          go_roundw
          case rel => exact ⟨q + 1, by omega, by go_num, hk2n, hk3n, hbn⟩
          case measure => simp [intOf]; omega
        · obtain rfl : q = 48 := by omega
          have hsc : wmore (wfirst b 16) 48 = sched b := rfl
          rw [hsc] at hq3
          have hsl := sched_length b
          rw [wcells_full hsl] at hq3
          obtain ⟨W, hW⟩ : ∃ W, W = sched b := ⟨_, rfl⟩
          rw [← hW] at hq3 hsl
          have HW := hid hW
          clear hW hsc
          have hsz : 0 + (W.map cw).toArray.size ≤ (wcells []).size := by simp [wcells, hsl]
          go_wp2_with (first
            | (refine wpList_load_agg rfl _ _ rfl _ _ rfl (W.map cw) (aggWL hsl) (blk_cells hq3) ?_)
            | (refine wpList_store_agg rfl _ _ _ rfl _ _ rfl (W.map cw).toArray rfl (aggWS hsl) hq2 hsz (one_cw _) ?_; intro w1 hput))
          rw [spl_whole (vs := (W.map cw).toArray) (by simp [wcells, hsl])] at hput
          refine bodyPost_ret (results_agg (cs := W.map cw) rfl rfl (aggWL hsl) (blk_cells hput.blk)) rfl ⟨?_, bx_put hbq hput hg2⟩
          rw [HW.out]
end Go.Proofs.YtgaefejblmnklaaDoor
