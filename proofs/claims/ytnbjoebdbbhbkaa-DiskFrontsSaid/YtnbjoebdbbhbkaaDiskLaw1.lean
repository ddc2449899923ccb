/- DiskTwice: its walk. -/
import Derived.Test.YtnbjoebdbbhbkaaDiskAwake
namespace Go.Proofs.Ytnbjoebdbbhbkaa
open Go.RowKit
set_option linter.unusedVariables false

/-- The value is the whole row that 'full' has made. -/
def FP.full (l : List UInt8) : FP := ⟨fun v w => ∃ g, v = .slice (some ⟨g, 0, none⟩) 256 256 ∧ Blk w g 5 ((fullX l).map cb).toArray, fun _ _ _ hb h => by
  obtain ⟨g, h1, h2⟩ := h
  exact ⟨g, h1, h2.below hb h2.lt⟩⟩
theorem wrap_u8s (n : Int) (h0 : 0 ≤ n) (h1 : n < 256) : IntKind.u8.wrap n = n := by simp [IntKind.wrap, IntKind.bits, IntKind.signed]; omega
theorem wrap_i64s (n : Int) (h0 : 0 ≤ n) (h1 : n < 9223372036854775808) : IntKind.i64.wrap n = n := wrap_small n h0 h1
theorem u8_conv {n : Nat} (h : n < 256) : (UInt8.ofNat n).toNat = n := by rw [UInt8.toNat_ofNat']; exact Nat.mod_eq_of_lt h
/-- The disk while it is just written. -/
structure Lives (D : DS) (n k : Nat) : Prop where
  n : D.n = n
  fails : D.fails = -1
  dead : D.dead = false
  loose : D.loose.length = k
theorem Lives.new {n : Nat} : Lives (newD n) n 0 := ⟨rfl, rfl, rfl, rfl⟩
theorem Lives.count {D : DS} {n k : Nat} (h : Lives D n k) : countE D = 0 ∧ countD D = D := by
  unfold countE countD
  rw [h.fails]
  exact ⟨rfl, rfl⟩
theorem Lives.wE {D : DS} {n k : Nat} (h : Lives D n k) {i : Int} (h0 : 0 ≤ i) (h1 : i < n) {l : List UInt8} (hl : l.length = 256) : writeE D i l = 0 ∧ writeD D i l = { D with loose := D.loose ++ [(i, l)] } := by
  have ht : thereB D i = true := by unfold thereB; rw [h.n]; simp; omega
  obtain ⟨h2, h3⟩ := h.count
  obtain ⟨h4, h5⟩ := writeD_ok h.dead ht hl h2
  rw [h3] at h4
  exact ⟨h5, h4⟩
theorem Lives.push {D : DS} {n k : Nat} (h : Lives D n k) (x : Int × List UInt8) : Lives { D with loose := D.loose ++ [x] } n (k + 1) := ⟨h.n, h.fails, h.dead, by show (D.loose ++ [x]).length = k + 1; rw [List.length_append, h.loose]; rfl⟩
theorem crash_lives {D : DS} {n k : Nat} (h : Lives D n k) (front : List UInt8) : Lives (crashD D front) n 0 := ⟨h.n, rfl, rfl, rfl⟩
theorem crash_twice {D : DS} {n : Nat} (h : Lives D n 0) (front : List UInt8) : crashD D front = D := by
  have hl : D.loose = [] := List.eq_nil_of_length_eq_zero h.loose
  obtain ⟨n, g, l, f, d⟩ := D
  obtain ⟨_, h2, h3, _⟩ := h
  simp only at h2 h3 hl
  subst h2 h3 hl
  rfl
theorem Lives.read {D : DS} {n k : Nat} (h : Lives D n k) {i : Int} (h0 : 0 ≤ i) (h1 : i < n) : readE D i = 0 ∧ readV D i = readAt D i := by
  have ht : thereB D i = true := by unfold thereB; rw [h.n]; simp; omega
  have e : readE D i = 0 := by unfold readE; rw [h.dead, ht]; rfl
  exact ⟨e, by unfold readV; rw [if_pos e]⟩
theorem readAt_length {D : DS} (h : D.Ok) (i : Int) : (readAt D i).length = 256 := readL_length h.l256 i (goodAt_length h i)
/-- All blocks, one behind the other. -/
def blocks (D : DS) (k : Nat) : List UInt8 := (List.range k).flatMap fun (i : Nat) => readAt D (i : Int)
theorem blocks_succ (D : DS) (k : Nat) : blocks D (k + 1) = blocks D k ++ readAt D (k : Int) := by simp [blocks, List.range_succ]
theorem blocks_length {D : DS} (h : D.Ok) (k : Nat) : (blocks D k).length = 256 * k := by
  induction k with
  | zero => rfl
  | succ k ih => rw [blocks_succ, List.length_append, ih, readAt_length h]; omega
theorem str_app (a b : List UInt8) : (⟨a.toArray⟩ : ByteArray) ++ ⟨b.toArray⟩ = ⟨(a ++ b).toArray⟩ := by
  apply ByteArray.ext
  simp
set_option maxRecDepth 100000 in
set_option maxHeartbeats 4000000 in
theorem DiskTwice_walk (w : World) (A0 : Option Addr) (c0 : Nat) (l0 : List UInt8) (hc0 : l0.length ≤ c0) (hm0 : c0 ≤ maxLen) (hr0 : Rd w w.heap.size A0 (l0.map cb))
    (A1 : Option Addr) (c1 : Nat) (l1 : List UInt8) (hc1 : l1.length ≤ c1) (hm1 : c1 ≤ maxLen) (hr1 : Rd w w.heap.size A1 (l1.map cb))
    (A2 : Option Addr) (c2 : Nat) (l2 : List UInt8) (hc2 : l2.length ≤ c2) (hm2 : c2 ≤ maxLen) (hr2 : Rd w w.heap.size A2 (l2.map cb)) :
    Calls Try.prog 3 #[.slice A0 l0.length c0, .slice A1 l1.length c1, .slice A2 l2.length c2] w fun e w' => e = .returned (.bool true) ∧ Below w.heap.size w w' := by
  have hmx1 : l1.length ≤ maxLen := by omega
  have hmx2 : l2.length ≤ maxLen := by omega
  unfold maxLen at hm0 hm1 hm2
  go_enter Try.func3, Try.ntmps3
  go_wp2_with fail
  refine (awake_any _).mono ?_
  rintro e w1 ⟨rfl, hb1⟩
  by_cases hs0 : 20 < l0.length
  · go_wp2
    go_ret
    exact ⟨rfl, hb1⟩
  by_cases hs1 : 30 < l1.length
  · go_wp2
    go_ret
    exact ⟨rfl, hb1⟩
  go_wp2_with fail
  refine (New_yes w1 3 (by omega) (by omega)).mono ?_
  rintro e w2 ⟨g, rfl, hd2, hb2⟩
  have hb12 := bx_trans hb1 hb2
  have hB := hb1.size
  have hR0 := hid hr0
  have hR1 := hid hr1
  have hR2 := hid hr2
  clear hr0 hr1 hr2
  go_wp2
  go_loopw [10] (fun j wr => ∃ k : Nat, k ≤ l0.length ∧ j = .int .i64 k ∧ (∃ D, IsDisk wr w1.heap.size g D ∧ Lives D 3 k) ∧ Below w.heap.size w wr) (fun j _ => l0.length - (intOf j).toNat)
  case atStart => exact ⟨0, by omega, rfl, ⟨_, hd2, .new⟩, hb12⟩
  case round =>
    obtain ⟨k, hk, rfl, ⟨D, hD, hL⟩, hbr⟩ := hrel
    by_cases hlt : k < l0.length
    · obtain ⟨b, off, rfl, hbb, hd⟩ := (hR0.out.below hbr).at_ (k := k) (by simpa using hlt)
      have hcell : wr.cell? ⟨b, off + k, none⟩ = some (.int .u8 (l0[k].toNat : Int)) := hd k _ (by simp [cb, hlt])
      have hy8 := l0[k].toNat_lt
      have hkc : (UInt8.ofNat k).toNat = k := u8_conv (by omega)
      have hbw : b < wr.heap.size := by have := hbr.size; omega
      clear hd
      generalize l0[k] = y at *
      have HD := hid hD
      have hws := hbr.size
      have hDs : w1.heap.size ≤ wr.heap.size := by obtain ⟨_, _, _, h⟩ := hD; have := h.gB; have := h.blk.lt; omega
      have hy3 : ((y.toNat : Int)).tmod 3 = ((y.toNat % 3 : Nat) : Int) := (Int.tmod_eq_emod_of_nonneg (by omega)).trans (by omega)
      have hq3 : y.toNat % 3 < 3 := Nat.mod_lt _ (by omega)
      have hkn : (UInt8.ofNat k).toNat < 256 := by omega
      generalize y.toNat % 3 = q at *
      generalize UInt8.ofNat k = kb at *
      have HKC := hid hkc
      clear hD hkc hkn
      go_wp2_with fail
      refine wp_flow (by kernel_rfl) [0, 0, 0, 6, 14, 30, 62, 0, 0, 384, 896, 0, 2048, 8064, 16256, 32767, 65535] 15 [false, false, false, false, false, false, false, false, false, false, false, false, false, false, false, false, false, false, false, false, false, false, false, false, false, false, false, false, false, false, false, false, false, false, false, false, false, false, false, false, false, false, true, true, true, true, true, true, true, true, true, true, true, true, true, true, true, false, false] (by kernel_rfl) (by decide) (by kernel_rfl) [FP.eq (.pointer (some ⟨g, 0, none⟩)), FP.eq (.slice (some ⟨b, off, none⟩) l0.length c0), FP.eq (.int .i64 k), FP.eq (.pointer (some ⟨b, off + k, none⟩)), FP.eq (.int .u8 (y.toNat : Int)), FP.eq (.int .u8 (q : Int)), FP.eq (.int .i64 (q : Int)), FP.eq (.slice (some ⟨b, off, none⟩) l0.length c0), FP.eq (.int .i64 k), FP.eq (.pointer (some ⟨b, off + k, none⟩)), FP.eq (.int .u8 (y.toNat : Int)), FP.eq (.int .i64 k), FP.eq (.int .u8 (k : Int)), FP.bytes [y, kb], FP.full [y, kb]] ?_ ?_
      · refine allFrom_cons ?_ ?_
        · intro a_ w_ hk_
          have h8 : a_.eval (.tmp 8) = .pointer (some ⟨g, 0, none⟩) := hk_.old 8 (by kernel_rfl)
          have hx_ := hk_.ext
          clear hk_
          refine flow_plain rfl ?_
          exact gives_move rfl ⟨Below.refl _ _, h8⟩
        refine allFrom_cons ?_ ?_
        · intro a_ w_ hk_
          have h0 : a_.eval (.tmp 0) = .slice (some ⟨b, off, none⟩) l0.length c0 := hk_.old 0 (by kernel_rfl)
          have hx_ := hk_.ext
          clear hk_
          refine flow_plain rfl ?_
          exact gives_move rfl ⟨Below.refl _ _, h0⟩
        refine allFrom_cons ?_ ?_
        · intro a_ w_ hk_
          have h10 : a_.eval (.tmp 10) = .int .i64 k := hk_.old 10 (by kernel_rfl)
          have hx_ := hk_.ext
          clear hk_
          refine flow_plain rfl ?_
          exact gives_move rfl ⟨Below.refl _ _, h10⟩
        refine allFrom_cons ?_ ?_
        · intro a_ w_ hk_
          have h43 : a_.eval (.tmp 43) = (.slice (some ⟨b, off, none⟩) l0.length c0) := hk_.got 1 43 _ (by kernel_rfl) rfl rfl
          have h44 : a_.eval (.tmp 44) = (.int .i64 k) := hk_.got 2 44 _ (by kernel_rfl) rfl rfl
          have hx_ := hk_.ext
          clear hk_
          refine flow_plain rfl ?_
          unfold gives
          have hc_ : ∀ v, a_.eval (.const v) = v := fun _ => rfl
          have hn_ : ∀ f, a_.eval (.func f) = .func (.func f) #[] #[] := fun _ => rfl
          generalize a_.eval = ρ_ at *
          go_simp
          exact ⟨Below.refl _ _, rfl⟩
        refine allFrom_cons ?_ ?_
        · intro a_ w_ hk_
          have h45 : a_.eval (.tmp 45) = (.pointer (some ⟨b, off + k, none⟩)) := hk_.got 3 45 _ (by kernel_rfl) rfl rfl
          have hx_ := hk_.ext
          clear hk_
          refine flow_plain rfl ?_
          unfold gives
          have hc_ : ∀ v, a_.eval (.const v) = v := fun _ => rfl
          have hn_ : ∀ f, a_.eval (.func f) = .func (.func f) #[] #[] := fun _ => rfl
          have hcell := (hx_.cell (p := ⟨b, off + k, none⟩) hbw).trans hcell
          generalize a_.eval = ρ_ at *
          go_simp
          exact ⟨Below.refl _ _, rfl⟩
        refine allFrom_cons ?_ ?_
        · intro a_ w_ hk_
          have h46 : a_.eval (.tmp 46) = (.int .u8 (y.toNat : Int)) := hk_.got 4 46 _ (by kernel_rfl) rfl rfl
          have hx_ := hk_.ext
          clear hk_
          refine flow_plain rfl ?_
          unfold gives
          have hc_ : ∀ v, a_.eval (.const v) = v := fun _ => rfl
          have hn_ : ∀ f, a_.eval (.func f) = .func (.func f) #[] #[] := fun _ => rfl
          generalize a_.eval = ρ_ at *
          go_simp
          exact ⟨Below.refl _ _, rfl⟩
        refine allFrom_cons ?_ ?_
        · intro a_ w_ hk_
          have h47 : a_.eval (.tmp 47) = (.int .u8 (q : Int)) := hk_.got 5 47 _ (by kernel_rfl) rfl rfl
          have hx_ := hk_.ext
          clear hk_
          refine flow_plain rfl ?_
          unfold gives
          have hc_ : ∀ v, a_.eval (.const v) = v := fun _ => rfl
          have hn_ : ∀ f, a_.eval (.func f) = .func (.func f) #[] #[] := fun _ => rfl
          generalize a_.eval = ρ_ at *
          go_simp
          exact ⟨Below.refl _ _, congrArg (Value.int _) (wrap_i64s _ (by omega) (by omega))⟩
        refine allFrom_cons ?_ ?_
        · intro a_ w_ hk_
          have h0 : a_.eval (.tmp 0) = .slice (some ⟨b, off, none⟩) l0.length c0 := hk_.old 0 (by kernel_rfl)
          have hx_ := hk_.ext
          clear hk_
          refine flow_plain rfl ?_
          exact gives_move rfl ⟨Below.refl _ _, h0⟩
        refine allFrom_cons ?_ ?_
        · intro a_ w_ hk_
          have h10 : a_.eval (.tmp 10) = .int .i64 k := hk_.old 10 (by kernel_rfl)
          have hx_ := hk_.ext
          clear hk_
          refine flow_plain rfl ?_
          exact gives_move rfl ⟨Below.refl _ _, h10⟩
        refine allFrom_cons ?_ ?_
        · intro a_ w_ hk_
          have h49 : a_.eval (.tmp 49) = (.slice (some ⟨b, off, none⟩) l0.length c0) := hk_.got 7 49 _ (by kernel_rfl) rfl rfl
          have h50 : a_.eval (.tmp 50) = (.int .i64 k) := hk_.got 8 50 _ (by kernel_rfl) rfl rfl
          have hx_ := hk_.ext
          clear hk_
          refine flow_plain rfl ?_
          unfold gives
          have hc_ : ∀ v, a_.eval (.const v) = v := fun _ => rfl
          have hn_ : ∀ f, a_.eval (.func f) = .func (.func f) #[] #[] := fun _ => rfl
          generalize a_.eval = ρ_ at *
          go_simp
          exact ⟨Below.refl _ _, rfl⟩
        refine allFrom_cons ?_ ?_
        · intro a_ w_ hk_
          have h51 : a_.eval (.tmp 51) = (.pointer (some ⟨b, off + k, none⟩)) := hk_.got 9 51 _ (by kernel_rfl) rfl rfl
          have hx_ := hk_.ext
          clear hk_
          refine flow_plain rfl ?_
          unfold gives
          have hc_ : ∀ v, a_.eval (.const v) = v := fun _ => rfl
          have hn_ : ∀ f, a_.eval (.func f) = .func (.func f) #[] #[] := fun _ => rfl
          have hcell := (hx_.cell (p := ⟨b, off + k, none⟩) hbw).trans hcell
          generalize a_.eval = ρ_ at *
          go_simp
          exact ⟨Below.refl _ _, rfl⟩
        refine allFrom_cons ?_ ?_
        · intro a_ w_ hk_
          have h10 : a_.eval (.tmp 10) = .int .i64 k := hk_.old 10 (by kernel_rfl)
          have hx_ := hk_.ext
          clear hk_
          refine flow_plain rfl ?_
          exact gives_move rfl ⟨Below.refl _ _, h10⟩
        refine allFrom_cons ?_ ?_
        · intro a_ w_ hk_
          have h53 : a_.eval (.tmp 53) = (.int .i64 k) := hk_.got 11 53 _ (by kernel_rfl) rfl rfl
          have hx_ := hk_.ext
          clear hk_
          refine flow_plain rfl ?_
          unfold gives
          have hc_ : ∀ v, a_.eval (.const v) = v := fun _ => rfl
          have hn_ : ∀ f, a_.eval (.func f) = .func (.func f) #[] #[] := fun _ => rfl
          generalize a_.eval = ρ_ at *
          go_simp
          exact ⟨Below.refl _ _, congrArg (Value.int _) (wrap_u8s _ (by omega) (by omega))⟩
        refine allFrom_cons ?_ ?_
        · intro a_ w_ hk_
          have h52 : a_.eval (.tmp 52) = (.int .u8 (y.toNat : Int)) := hk_.got 10 52 _ (by kernel_rfl) rfl rfl
          have h54 : a_.eval (.tmp 54) = (.int .u8 (k : Int)) := hk_.got 12 54 _ (by kernel_rfl) rfl rfl
          have hx_ := hk_.ext
          clear hk_
          refine flow_plain rfl ?_
          unfold gives
          have hc_ : ∀ v, a_.eval (.const v) = v := fun _ => rfl
          have hn_ : ∀ f, a_.eval (.func f) = .func (.func f) #[] #[] := fun _ => rfl
          generalize a_.eval = ρ_ at *
          go_simp
          exact ⟨bx_alloc (Below.refl _ _) _, rdB_of_row (heap_new rfl) (by simp [cb, HKC.out]) rfl (by simp)⟩
        refine allFrom_cons ?_ ?_
        · intro a_ w_ hk_
          have h55 : (FP.bytes [y, kb]).p (a_.eval (.tmp 55)) w_ := hk_.got 13 55 _ (by kernel_rfl) rfl rfl
          have hx_ := hk_.ext
          clear hk_
          refine flow_plain rfl ?_
          unfold gives
          have hc_ : ∀ v, a_.eval (.const v) = v := fun _ => rfl
          have hn_ : ∀ f, a_.eval (.func f) = .func (.func f) #[] #[] := fun _ => rfl
          obtain ⟨A55, c55, h55, m55, r55⟩ := h55
          generalize a_.eval = ρ_ at *
          go_simp
          exact (full_any _ r55 (Nat.le_refl _) (by simp [maxLen]) false).mono fun e w' ⟨g, h1, _, h3, h4⟩ => ⟨_, h1, h4, g, rfl, h3⟩
        exact allFrom_nil
      intro f_ w_ hx_ hf_
      have h42 : f_ 42 = (.pointer (some ⟨g, 0, none⟩)) := hf_ 0 42 _ (by decide) rfl rfl
      have h43 : f_ 43 = (.slice (some ⟨b, off, none⟩) l0.length c0) := hf_ 1 43 _ (by decide) rfl rfl
      have h44 : f_ 44 = (.int .i64 k) := hf_ 2 44 _ (by decide) rfl rfl
      have h45 : f_ 45 = (.pointer (some ⟨b, off + k, none⟩)) := hf_ 3 45 _ (by decide) rfl rfl
      have h46 : f_ 46 = (.int .u8 (y.toNat : Int)) := hf_ 4 46 _ (by decide) rfl rfl
      have h47 : f_ 47 = (.int .u8 (q : Int)) := hf_ 5 47 _ (by decide) rfl rfl
      have h48 : f_ 48 = (.int .i64 (q : Int)) := hf_ 6 48 _ (by decide) rfl rfl
      have h49 : f_ 49 = (.slice (some ⟨b, off, none⟩) l0.length c0) := hf_ 7 49 _ (by decide) rfl rfl
      have h50 : f_ 50 = (.int .i64 k) := hf_ 8 50 _ (by decide) rfl rfl
      have h51 : f_ 51 = (.pointer (some ⟨b, off + k, none⟩)) := hf_ 9 51 _ (by decide) rfl rfl
      have h52 : f_ 52 = (.int .u8 (y.toNat : Int)) := hf_ 10 52 _ (by decide) rfl rfl
      have h53 : f_ 53 = (.int .i64 k) := hf_ 11 53 _ (by decide) rfl rfl
      have h54 : f_ 54 = (.int .u8 (k : Int)) := hf_ 12 54 _ (by decide) rfl rfl
      have h55 : (FP.bytes [y, kb]).p (f_ 55) w_ := hf_ 13 55 _ (by decide) rfl rfl
      have h56 : (FP.full [y, kb]).p (f_ 56) w_ := hf_ 14 56 _ (by decide) rfl rfl
      simp only [mix, List.drop_succ_cons, List.drop_zero, h42, h43, h44, h45, h46, h47, h48, h49, h50, h51, h52, h53, h54]
      clear h42 h43 h44 h45 h46 h47 h48 h49 h50 h51 h52 h53 h54
      clear hf_
      obtain ⟨gf, h56, hblkf⟩ := h56
      rw [h56]
      obtain ⟨hrf, hof⟩ := full_out hblkf false
      have hDw := HD.out.below hx_
      obtain ⟨hwE, hwD⟩ := hL.wE (i := (q : Int)) (by omega) (by omega) (fullX_length [y, kb])
      have hlf : (fullR [y, kb] false).length = 256 := fullX_length _
      have hroom := hL.loose
      go_wp2_with fail
      rw [← hlf]
      refine (Write_any w_ hDw (by have := hx_.size; omega) _ (by rw [hlf]; decide) (Kp.of_out hrf hof) (Nat.le_refl _) (by omega)).mono ?_
      rintro e w5 ⟨rfl, hd5, hf5⟩
      rw [show fullR [y, kb] false = fullX [y, kb] from rfl] at hd5 ⊢
      rw [hwE]
      rw [hwD] at hd5
      go_wp2
      go_roundw
      case rel => exact ⟨k + 1, by omega, by go_num, ⟨_, hd5, hL.push _⟩, (bx_trans hbr hx_).trans (hf5.below.mono hB)⟩
      case measure => simp [intOf]; omega
    · clear hd2
      go_wp2_with fail
      refine (Crash_any wr hD (front := l1) (Kp.of_below (hR1.out.below hbr) hB) hbr.size hmx1).mono ?_
      rintro e w5 ⟨rfl, hd5, hf5⟩
      have hL5 := crash_lives hL l1
      generalize crashD D l1 = E at *
      have hb5 : Below w.heap.size w w5 := hbr.trans (hf5.below.mono hB)
      have hs5 : w1.heap.size ≤ w5.heap.size := by obtain ⟨_, _, _, h⟩ := hd5; have := h.gB; have := h.blk.lt; omega
      have hok5 : E.Ok := by obtain ⟨_, _, _, h⟩ := hd5; exact h.ok
      clear hD hbr hf5 hL
      go_wp2
      go_loopw [11, 12] (fun s j wq => ∃ k : Nat, k ≤ 3 ∧ j = .int .i64 k ∧ s = .string ⟨(blocks E k).toArray⟩ ∧ Below w5.heap.size w5 wq) (fun _ j _ => 3 - (intOf j).toNat)
      case atStart => exact ⟨0, by omega, rfl, rfl, Below.refl _ _⟩
      case round =>
        obtain ⟨q, hq, rfl, rfl, hbq⟩ := hrel
        have hdq := hd5.below hbq
        by_cases hlt : q < 3
        · obtain ⟨hrE, hrV⟩ := hL5.read (i := (q : Int)) (by omega) (by omega)
          have hbs := blocks_succ E q
          go_wp2_with fail
          refine (Read_any _ hdq (Nat.le_trans hs5 hbq.size) (q : Int)).mono ?_
          rintro e w6 ⟨v, rfl, hv, hb6⟩
          obtain ⟨Av, cv, rfl, _, hrv, _⟩ := hv
          rw [hrV] at hrv ⊢
          rw [hrE]
          have hcv := conv_str (P := Try.prog) (src := 22) (dst := 9) Try.underlying22 Try.underlying5 Try.underlying9 cv hrv
          have HBS := hid hbs
          have hle : (blocks E q).length + (readAt E (q : Int)).length ≤ 9223372036854775807 := by rw [blocks_length hok5, readAt_length hok5]; omega
          clear hbs hrv
          go_wp2
          go_roundw
          case rel => exact ⟨q + 1, by omega, by go_num, by rw [str_app, HBS.out], bx_trans hbq hb6⟩
          case measure => simp [intOf]; omega
        · obtain rfl : q = 3 := by omega
          have hlen : (blocks E 3).length = 768 := blocks_length hok5 3
          have hb6 : Below w.heap.size w wr := hb5.trans (hbq.mono hb5.size)
          clear hd5 hb5 hbq
          go_wp2_with fail
          refine (Crash_any _ hdq (front := l2) (Kp.of_below (hR2.out.below hb6) hB) hb6.size hmx2).mono ?_
          rintro e w7 ⟨rfl, hd7, hf7⟩
          rw [crash_twice hL5] at hd7
          have hb7 : Below w.heap.size w w7 := hb6.trans (hf7.below.mono hB)
          have hs7 : w1.heap.size ≤ w7.heap.size := by obtain ⟨_, _, _, h⟩ := hd7; have := h.gB; have := h.blk.lt; omega
          clear hdq hf7 hb6
          go_wp2
          go_loopw [15, 16] (fun s j wq => ∃ k : Nat, k ≤ 3 ∧ j = .int .i64 k ∧ s = .string ⟨(blocks E k).toArray⟩ ∧ Below w7.heap.size w7 wq) (fun _ j _ => 3 - (intOf j).toNat)
          case atStart => exact ⟨0, by omega, rfl, rfl, Below.refl _ _⟩
          case round =>
            obtain ⟨q, hq, rfl, rfl, hbq⟩ := hrel
            have hdq := hd7.below hbq
            by_cases hlt : q < 3
            · obtain ⟨hrE, hrV⟩ := hL5.read (i := (q : Int)) (by omega) (by omega)
              have hbs := blocks_succ E q
              go_wp2_with fail
              refine (Read_any _ hdq (Nat.le_trans hs7 hbq.size) (q : Int)).mono ?_
              rintro e w8 ⟨v, rfl, hv, hb8⟩
              obtain ⟨Av, cv, rfl, _, hrv, _⟩ := hv
              rw [hrV] at hrv ⊢
              rw [hrE]
              have hcv := conv_str (P := Try.prog) (src := 22) (dst := 9) Try.underlying22 Try.underlying5 Try.underlying9 cv hrv
              have HBS := hid hbs
              have hle : (blocks E q).length + (readAt E (q : Int)).length ≤ 9223372036854775807 := by rw [blocks_length hok5, readAt_length hok5]; omega
              clear hbs hrv
              go_wp2
              go_roundw
              case rel => exact ⟨q + 1, by omega, by go_num, by rw [str_app, HBS.out], bx_trans hbq hb8⟩
              case measure => simp [intOf]; omega
            · obtain rfl : q = 3 := by omega
              have hbf : Below w.heap.size w wr := hb7.trans (hbq.mono hb7.size)
              have hz := hL5.loose
              go_wp2_with fail
              refine (Loose_any _ hdq).mono ?_
              rintro e w9 ⟨rfl, rfl⟩
              rw [hz]
              go_wp2
              go_ret
              exact ⟨ret_val (by simp), hbf⟩
end Go.Proofs.Ytnbjoebdbbhbkaa
