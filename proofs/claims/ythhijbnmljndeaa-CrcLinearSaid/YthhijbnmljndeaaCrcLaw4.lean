/- The law CrcLinear: its walk. -/
import Derived.Test.YthhijbnmljndeaaCrcLaw3
import Derived.Test.YthhijbnmljndeaaFlow
import Derived.OpenShut
namespace Go.Proofs.Ythhijbnmljndeaa
open Go.RowKit
/-! ### The plain law -/
theorem crcF_xor3 (x y z : Nat) : ∀ (a b c : List UInt8), a.length = b.length → b.length = c.length →
    crcF (x ^^^ y ^^^ z) (List.zipWith (fun p q => p ^^^ q) (List.zipWith (fun p q => p ^^^ q) a b) c) = crcF x a ^^^ crcF y b ^^^ crcF z c
  | [], [], [], _, _ => rfl
  | p :: a, q :: b, r :: c, h, h' => by
    simp only [List.zipWith_cons_cons, crcF, List.foldl_cons]
    rw [crcB_xor, crcB_xor]
    exact crcF_xor3 _ _ _ a b c (by simpa using h) (by simpa using h')
theorem crc_eq_xor (l : List UInt8) : crc l = 4294967295 ^^^ crcF 4294967295 l := by
  have h := crcF_lt (x := 4294967295) (by omega) l
  unfold crc
  have h1 : (~~~ (BitVec.ofNat 32 (crcF 4294967295 l))).toNat = 4294967295 - crcF 4294967295 l := by rw [BitVec.toNat_not, BitVec.toNat_ofNat]; omega
  rw [← h1, ← BitVec.allOnes_xor, BitVec.toNat_xor, BitVec.toNat_allOnes, BitVec.toNat_ofNat, Nat.mod_eq_of_lt (by omega)]
def xor3 (a b c : List UInt8) : List UInt8 := List.zipWith (fun p q => p ^^^ q) (List.zipWith (fun p q => p ^^^ q) a b) c
theorem crc_xor3 (a b c : List UInt8) (h : a.length = b.length) (h' : b.length = c.length) : crc (xor3 a b c) = crc a ^^^ crc b ^^^ crc c := by
  rw [crc_eq_xor, crc_eq_xor a, crc_eq_xor b, crc_eq_xor c]
  have := crcF_xor3 4294967295 4294967295 4294967295 a b c h h'
  rw [show 4294967295 ^^^ 4294967295 ^^^ 4294967295 = 4294967295 by decide] at this
  unfold xor3
  rw [this]
  generalize crcF 4294967295 a = x
  generalize crcF 4294967295 b = y
  generalize crcF 4294967295 c = z
  rw [show (4294967295 ^^^ x) ^^^ (4294967295 ^^^ y) ^^^ (4294967295 ^^^ z) = (4294967295 ^^^ 4294967295) ^^^ (4294967295 ^^^ (x ^^^ y ^^^ z)) by ac_rfl]
  simp
theorem xor3_length (a b c : List UInt8) (n : Nat) (ha : a.length = n) (hb : b.length = n) (hc : c.length = n) : (xor3 a b c).length = n := by simp [xor3, ha, hb, hc]
theorem xor3_get (a b c : List UInt8) (k : Nat) (ha : k < a.length) (hb : k < b.length) (hc : k < c.length) (h : k < (xor3 a b c).length) : (xor3 a b c)[k] = a[k] ^^^ b[k] ^^^ c[k] := by simp [xor3]
theorem xor8_walk (a b : UInt8) : bits BinOp.xor IntKind.u8 (a.toNat : Int) (b.toNat : Int) = ((a ^^^ b).toNat : Int) := by
  rw [u8_xor_nat _ _ (u8_lt a) (u8_lt b), UInt8.toNat_xor]
set_option maxHeartbeats 1000000 in
theorem CrcLinear_walk (w : World) (A0 : Option Addr) (c0 : Nat) (l0 : List UInt8) (hc0 : l0.length ≤ c0) (hm0 : c0 ≤ maxLen) (hr0 : Rd w w.heap.size A0 (l0.map cb)) (A1 : Option Addr) (c1 : Nat) (l1 : List UInt8) (hc1 : l1.length ≤ c1) (hm1 : c1 ≤ maxLen) (hr1 : Rd w w.heap.size A1 (l1.map cb))
    (A2 : Option Addr) (c2 : Nat) (l2 : List UInt8) (hc2 : l2.length ≤ c2) (hm2 : c2 ≤ maxLen) (hr2 : Rd w w.heap.size A2 (l2.map cb)) :
    Calls Try.prog 6 #[.slice A0 l0.length c0, .slice A1 l1.length c1, .slice A2 l2.length c2] w fun e w' => e = .returned (.bool true) ∧ Below w.heap.size w w' := by
  unfold maxLen at hm0 hm1 hm2
  go_enter Try.func6, Try.ntmps6
  go_wp2_with fail
  refine (awake_any _).mono ?_
  rintro e w1 ⟨rfl, hb1⟩
  obtain ⟨n, hn⟩ : ∃ n, n = min (min l0.length l1.length) l2.length := ⟨_, rfl⟩
  have hn0 : n ≤ l0.length := by omega
  have hn1 : n ≤ l1.length := by omega
  have hn2 : n ≤ l2.length := by omega
  have HN := hid hn
  clear hn
  by_cases hbig : 300 < n
  · go_wp2_with (refine wpList_min3 rfl _ _ _ _ rfl _ _ _ n rfl rfl rfl HN.out ?_)
    go_ret
    exact ⟨rfl, hb1⟩
  · have hmk := run_mk1 elU8 .i64 .i64 n (by omega) (by omega)
    go_wp2_with (refine wpList_min3 rfl _ _ _ _ rfl _ _ _ n rfl rfl rfl HN.out ?_)
    have hX : (xor3 (l0.take n) (l1.take n) (l2.take n)).length = n := xor3_length _ _ _ n (by simp; omega) (by simp; omega) (by simp; omega)
    have hXg : ∀ k (h0 : k < l0.length) (h1 : k < l1.length) (h2 : k < l2.length) (h : k < (xor3 (l0.take n) (l1.take n) (l2.take n)).length), (xor3 (l0.take n) (l1.take n) (l2.take n))[k] = l0[k] ^^^ l1[k] ^^^ l2[k] := by
      intro k h0 h1 h2 h
      rw [xor3_get _ _ _ k (by simp; omega) (by simp; omega) (by simp; omega)]
      simp
    have hXc : crc (xor3 (l0.take n) (l1.take n) (l2.take n)) = crc (l0.take n) ^^^ crc (l1.take n) ^^^ crc (l2.take n) := crc_xor3 _ _ _ (by simp; omega) (by simp; omega)
    have HXG := hid hXg
    have HXC := hid hXc
    have HXL := hid hX
    clear hXg hXc
    generalize xor3 (l0.take n) (l1.take n) (l2.take n) = X at *
    have hxl1 : X.length ≤ n := by omega
    have hxl2 : n ≤ X.length := by omega
    clear hX
    have hg : w.heap.size ≤ w1.heap.size := hb1.size
    go_loopw [10] (fun i wr => ∃ k : Nat, k ≤ n ∧ i = .int .i64 k ∧ Blk wr w1.heap.size 5 (fillTo X k) ∧ Below w.heap.size w wr) (fun i _ => n - (intOf i).toNat)
    case atStart => exact ⟨0, by omega, rfl, by rw [fillTo_zero, HXL.out]; exact Blk.new w1 _ _, bx_alloc hb1 _⟩
    case round =>
      obtain ⟨k, hk, rfl, hblk, hbr⟩ := hrel
      by_cases hlt : k < n
      · obtain ⟨b0, o0, rfl, hbb0, hd0⟩ := hr0.at_ (k := k) (by simp; omega)
        obtain ⟨b1, o1, rfl, hbb1, hd1⟩ := hr1.at_ (k := k) (by simp; omega)
        obtain ⟨b2, o2, rfl, hbb2, hd2⟩ := hr2.at_ (k := k) (by simp; omega)
        have hk0 : k < l0.length := by omega
        have hk1 : k < l1.length := by omega
        have hk2 : k < l2.length := by omega
        have hc0 := hd0 k (cb l0[k]) (by simp [hk0])
        have hc1 := hd1 k (cb l1[k]) (by simp [hk1])
        have hc2 := hd2 k (cb l2[k]) (by simp [hk2])
        have hxk := HXG.out k hk0 hk1 hk2 (by omega)
        have hstep := fillTo_step X k (by omega)
        have hget := fillTo_get X k (by omega)
        rw [hxk] at hstep
        unfold cb at hc0 hc1 hc2
        generalize l0[k] = x0 at *
        generalize l1[k] = x1 at *
        generalize l2[k] = x2 at *
        have hx01 := xor8_walk x0 x1
        have hx012 := xor8_walk (x0 ^^^ x1) x2
        simp only [UInt8.toNat_xor] at hx01 hx012 hstep
        have HSTEP := hid hstep
        have HGET := hid hget
        have HBLK := hid hblk
        clear hstep hget hd0 hd1 hd2 hblk hr0 hr1 hr2 hxk
        go_wp2_with fail
        refine wp_flow (by kernel_rfl) [0, 0, 0, 0, 12, 28, 0, 0, 192, 448, 1020, 0, 0, 6144, 14336, 32764, 65535, 131071] 17 [false, false, false, false, false, false, false, false, false, false, false, false, false, false, false, false, false, false, false, false, false, false, false, false, false, false, false, false, false, false, true, true, true, true, true, true, true, true, true, true, true, true, true, true, true, true, true] (by kernel_rfl) (by decide) (by kernel_rfl) [FP.eq (.slice (some ⟨w1.heap.size, 0, none⟩) n n), FP.eq (.int .i64 (k : Int)), FP.eq (.slice (some ⟨b0, o0, none⟩) l0.length c0), FP.eq (.int .i64 (k : Int)), FP.eq (.pointer (some ⟨b0, o0 + k, none⟩)), FP.eq (.int .u8 (x0.toNat : Int)), FP.eq (.slice (some ⟨b1, o1, none⟩) l1.length c1), FP.eq (.int .i64 (k : Int)), FP.eq (.pointer (some ⟨b1, o1 + k, none⟩)), FP.eq (.int .u8 (x1.toNat : Int)), FP.eq (.int .u8 ((x0.toNat ^^^ x1.toNat : Nat) : Int)), FP.eq (.slice (some ⟨b2, o2, none⟩) l2.length c2), FP.eq (.int .i64 (k : Int)), FP.eq (.pointer (some ⟨b2, o2 + k, none⟩)), FP.eq (.int .u8 (x2.toNat : Int)), FP.eq (.int .u8 ((x0.toNat ^^^ x1.toNat ^^^ x2.toNat : Nat) : Int)), FP.eq (.pointer (some ⟨w1.heap.size, k, none⟩))] ?_ ?_
        · refine allFrom_cons ?_ ?_
          · intro a_ w_ hk_
            have h9 : a_.eval (.tmp 9) = .slice (some ⟨w1.heap.size, 0, none⟩) n n := hk_.old 9 (by kernel_rfl)
            have hx_ := hk_.ext
            clear hk_
            refine flow_plain rfl ?_
            exact gives_move rfl ⟨Below.refl _ _, h9⟩
          refine allFrom_cons ?_ ?_
          · intro a_ w_ hk_
            have h10 : a_.eval (.tmp 10) = .int .i64 (k : Int) := hk_.old 10 (by kernel_rfl)
            have hx_ := hk_.ext
            clear hk_
            refine flow_plain rfl ?_
            exact gives_move rfl ⟨Below.refl _ _, h10⟩
          refine allFrom_cons ?_ ?_
          · intro a_ w_ hk_
            have h0 : a_.eval (.tmp 0) = .slice (some ⟨b0, o0, none⟩) l0.length c0 := hk_.old 0 (by kernel_rfl)
            have hx_ := hk_.ext
            clear hk_
            refine flow_plain rfl ?_
            exact gives_move rfl ⟨Below.refl _ _, h0⟩
          refine allFrom_cons ?_ ?_
          · intro a_ w_ hk_
            have h10 : a_.eval (.tmp 10) = .int .i64 (k : Int) := hk_.old 10 (by kernel_rfl)
            have hx_ := hk_.ext
            clear hk_
            refine flow_plain rfl ?_
            exact gives_move rfl ⟨Below.refl _ _, h10⟩
          refine allFrom_cons ?_ ?_
          · intro a_ w_ hk_
            have h32 : a_.eval (.tmp 32) = (.slice (some ⟨b0, o0, none⟩) l0.length c0) := hk_.got 2 32 _ (by kernel_rfl) rfl rfl
            have h33 : a_.eval (.tmp 33) = (.int .i64 (k : Int)) := hk_.got 3 33 _ (by kernel_rfl) rfl rfl
            have hx_ := hk_.ext
            clear hk_
            refine flow_plain rfl ?_
            unfold gives
            have hc_ : ∀ v, a_.eval (.const v) = v := fun _ => rfl
            have hn_ : ∀ f, a_.eval (.func f) = .func (.func f) #[] #[] := fun _ => rfl
            generalize a_.eval = ρ_ at *
            go_simp
            exact ⟨Below.refl _ _, rfl⟩
          refine allFrom_cons ?_ ?_
          · intro a_ w_ hk_
            have h34 : a_.eval (.tmp 34) = (.pointer (some ⟨b0, o0 + k, none⟩)) := hk_.got 4 34 _ (by kernel_rfl) rfl rfl
            have hx_ := hk_.ext
            clear hk_
            refine flow_plain rfl ?_
            unfold gives
            have hc_ : ∀ v, a_.eval (.const v) = v := fun _ => rfl
            have hn_ : ∀ f, a_.eval (.func f) = .func (.func f) #[] #[] := fun _ => rfl
            have hcell := ((hx_.mono hbr.size).cell (p := ⟨b0, o0 + k, none⟩) hbb0).trans ((hbr.cell (p := ⟨b0, o0 + k, none⟩) hbb0).trans hc0)
            generalize a_.eval = ρ_ at *
            go_simp
            exact ⟨Below.refl _ _, rfl⟩
          refine allFrom_cons ?_ ?_
          · intro a_ w_ hk_
            have h1 : a_.eval (.tmp 1) = .slice (some ⟨b1, o1, none⟩) l1.length c1 := hk_.old 1 (by kernel_rfl)
            have hx_ := hk_.ext
            clear hk_
            refine flow_plain rfl ?_
            exact gives_move rfl ⟨Below.refl _ _, h1⟩
          refine allFrom_cons ?_ ?_
          · intro a_ w_ hk_
            have h10 : a_.eval (.tmp 10) = .int .i64 (k : Int) := hk_.old 10 (by kernel_rfl)
            have hx_ := hk_.ext
            clear hk_
            refine flow_plain rfl ?_
            exact gives_move rfl ⟨Below.refl _ _, h10⟩
          refine allFrom_cons ?_ ?_
          · intro a_ w_ hk_
            have h36 : a_.eval (.tmp 36) = (.slice (some ⟨b1, o1, none⟩) l1.length c1) := hk_.got 6 36 _ (by kernel_rfl) rfl rfl
            have h37 : a_.eval (.tmp 37) = (.int .i64 (k : Int)) := hk_.got 7 37 _ (by kernel_rfl) rfl rfl
            have hx_ := hk_.ext
            clear hk_
            refine flow_plain rfl ?_
            unfold gives
            have hc_ : ∀ v, a_.eval (.const v) = v := fun _ => rfl
            have hn_ : ∀ f, a_.eval (.func f) = .func (.func f) #[] #[] := fun _ => rfl
            generalize a_.eval = ρ_ at *
            go_simp
            exact ⟨Below.refl _ _, rfl⟩
          refine allFrom_cons ?_ ?_
          · intro a_ w_ hk_
            have h38 : a_.eval (.tmp 38) = (.pointer (some ⟨b1, o1 + k, none⟩)) := hk_.got 8 38 _ (by kernel_rfl) rfl rfl
            have hx_ := hk_.ext
            clear hk_
            refine flow_plain rfl ?_
            unfold gives
            have hc_ : ∀ v, a_.eval (.const v) = v := fun _ => rfl
            have hn_ : ∀ f, a_.eval (.func f) = .func (.func f) #[] #[] := fun _ => rfl
            have hcell := ((hx_.mono hbr.size).cell (p := ⟨b1, o1 + k, none⟩) hbb1).trans ((hbr.cell (p := ⟨b1, o1 + k, none⟩) hbb1).trans hc1)
            generalize a_.eval = ρ_ at *
            go_simp
            exact ⟨Below.refl _ _, rfl⟩
          refine allFrom_cons ?_ ?_
          · intro a_ w_ hk_
            have h35 : a_.eval (.tmp 35) = (.int .u8 (x0.toNat : Int)) := hk_.got 5 35 _ (by kernel_rfl) rfl rfl
            have h39 : a_.eval (.tmp 39) = (.int .u8 (x1.toNat : Int)) := hk_.got 9 39 _ (by kernel_rfl) rfl rfl
            have hx_ := hk_.ext
            clear hk_
            refine flow_plain rfl ?_
            unfold gives
            have hc_ : ∀ v, a_.eval (.const v) = v := fun _ => rfl
            have hn_ : ∀ f, a_.eval (.func f) = .func (.func f) #[] #[] := fun _ => rfl
            generalize a_.eval = ρ_ at *
            go_simp
            exact ⟨Below.refl _ _, rfl⟩
          refine allFrom_cons ?_ ?_
          · intro a_ w_ hk_
            have h2 : a_.eval (.tmp 2) = .slice (some ⟨b2, o2, none⟩) l2.length c2 := hk_.old 2 (by kernel_rfl)
            have hx_ := hk_.ext
            clear hk_
            refine flow_plain rfl ?_
            exact gives_move rfl ⟨Below.refl _ _, h2⟩
          refine allFrom_cons ?_ ?_
          · intro a_ w_ hk_
            have h10 : a_.eval (.tmp 10) = .int .i64 (k : Int) := hk_.old 10 (by kernel_rfl)
            have hx_ := hk_.ext
            clear hk_
            refine flow_plain rfl ?_
            exact gives_move rfl ⟨Below.refl _ _, h10⟩
          refine allFrom_cons ?_ ?_
          · intro a_ w_ hk_
            have h41 : a_.eval (.tmp 41) = (.slice (some ⟨b2, o2, none⟩) l2.length c2) := hk_.got 11 41 _ (by kernel_rfl) rfl rfl
            have h42 : a_.eval (.tmp 42) = (.int .i64 (k : Int)) := hk_.got 12 42 _ (by kernel_rfl) rfl rfl
            have hx_ := hk_.ext
            clear hk_
            refine flow_plain rfl ?_
            unfold gives
            have hc_ : ∀ v, a_.eval (.const v) = v := fun _ => rfl
            have hn_ : ∀ f, a_.eval (.func f) = .func (.func f) #[] #[] := fun _ => rfl
            generalize a_.eval = ρ_ at *
            go_simp
            exact ⟨Below.refl _ _, rfl⟩
          refine allFrom_cons ?_ ?_
          · intro a_ w_ hk_
            have h43 : a_.eval (.tmp 43) = (.pointer (some ⟨b2, o2 + k, none⟩)) := hk_.got 13 43 _ (by kernel_rfl) rfl rfl
            have hx_ := hk_.ext
            clear hk_
            refine flow_plain rfl ?_
            unfold gives
            have hc_ : ∀ v, a_.eval (.const v) = v := fun _ => rfl
            have hn_ : ∀ f, a_.eval (.func f) = .func (.func f) #[] #[] := fun _ => rfl
            have hcell := ((hx_.mono hbr.size).cell (p := ⟨b2, o2 + k, none⟩) hbb2).trans ((hbr.cell (p := ⟨b2, o2 + k, none⟩) hbb2).trans hc2)
            generalize a_.eval = ρ_ at *
            go_simp
            exact ⟨Below.refl _ _, rfl⟩
          refine allFrom_cons ?_ ?_
          · intro a_ w_ hk_
            have h40 : a_.eval (.tmp 40) = (.int .u8 ((x0.toNat ^^^ x1.toNat : Nat) : Int)) := hk_.got 10 40 _ (by kernel_rfl) rfl rfl
            have h44 : a_.eval (.tmp 44) = (.int .u8 (x2.toNat : Int)) := hk_.got 14 44 _ (by kernel_rfl) rfl rfl
            have hx_ := hk_.ext
            clear hk_
            refine flow_plain rfl ?_
            unfold gives
            have hc_ : ∀ v, a_.eval (.const v) = v := fun _ => rfl
            have hn_ : ∀ f, a_.eval (.func f) = .func (.func f) #[] #[] := fun _ => rfl
            generalize a_.eval = ρ_ at *
            go_simp
            exact ⟨Below.refl _ _, rfl⟩
          refine allFrom_cons ?_ ?_
          · intro a_ w_ hk_
            have h30 : a_.eval (.tmp 30) = (.slice (some ⟨w1.heap.size, 0, none⟩) n n) := hk_.got 0 30 _ (by kernel_rfl) rfl rfl
            have h31 : a_.eval (.tmp 31) = (.int .i64 (k : Int)) := hk_.got 1 31 _ (by kernel_rfl) rfl rfl
            have hx_ := hk_.ext
            clear hk_
            refine flow_plain rfl ?_
            unfold gives
            have hc_ : ∀ v, a_.eval (.const v) = v := fun _ => rfl
            have hn_ : ∀ f, a_.eval (.func f) = .func (.func f) #[] #[] := fun _ => rfl
            generalize a_.eval = ρ_ at *
            go_simp
            exact ⟨Below.refl _ _, rfl⟩
          exact allFrom_nil
        intro f_ w_ hx_ hf_
        have h30 : f_ 30 = (.slice (some ⟨w1.heap.size, 0, none⟩) n n) := hf_ 0 30 _ (by decide) rfl rfl
        have h31 : f_ 31 = (.int .i64 (k : Int)) := hf_ 1 31 _ (by decide) rfl rfl
        have h32 : f_ 32 = (.slice (some ⟨b0, o0, none⟩) l0.length c0) := hf_ 2 32 _ (by decide) rfl rfl
        have h33 : f_ 33 = (.int .i64 (k : Int)) := hf_ 3 33 _ (by decide) rfl rfl
        have h34 : f_ 34 = (.pointer (some ⟨b0, o0 + k, none⟩)) := hf_ 4 34 _ (by decide) rfl rfl
        have h35 : f_ 35 = (.int .u8 (x0.toNat : Int)) := hf_ 5 35 _ (by decide) rfl rfl
        have h36 : f_ 36 = (.slice (some ⟨b1, o1, none⟩) l1.length c1) := hf_ 6 36 _ (by decide) rfl rfl
        have h37 : f_ 37 = (.int .i64 (k : Int)) := hf_ 7 37 _ (by decide) rfl rfl
        have h38 : f_ 38 = (.pointer (some ⟨b1, o1 + k, none⟩)) := hf_ 8 38 _ (by decide) rfl rfl
        have h39 : f_ 39 = (.int .u8 (x1.toNat : Int)) := hf_ 9 39 _ (by decide) rfl rfl
        have h40 : f_ 40 = (.int .u8 ((x0.toNat ^^^ x1.toNat : Nat) : Int)) := hf_ 10 40 _ (by decide) rfl rfl
        have h41 : f_ 41 = (.slice (some ⟨b2, o2, none⟩) l2.length c2) := hf_ 11 41 _ (by decide) rfl rfl
        have h42 : f_ 42 = (.int .i64 (k : Int)) := hf_ 12 42 _ (by decide) rfl rfl
        have h43 : f_ 43 = (.pointer (some ⟨b2, o2 + k, none⟩)) := hf_ 13 43 _ (by decide) rfl rfl
        have h44 : f_ 44 = (.int .u8 (x2.toNat : Int)) := hf_ 14 44 _ (by decide) rfl rfl
        have h45 : f_ 45 = (.int .u8 ((x0.toNat ^^^ x1.toNat ^^^ x2.toNat : Nat) : Int)) := hf_ 15 45 _ (by decide) rfl rfl
        have h46 : f_ 46 = (.pointer (some ⟨w1.heap.size, k, none⟩)) := hf_ 16 46 _ (by decide) rfl rfl
        simp only [mix, List.drop_succ_cons, List.drop_zero, h30, h31, h32, h33, h34, h35, h36, h37, h38, h39, h40, h41, h42, h43, h44, h45, h46]
        clear h30 h31 h32 h33 h34 h35 h36 h37 h38 h39 h40 h41 h42 h43 h44 h45 h46
        clear hf_
        have hblk2 := HBLK.out.below hx_ HBLK.out.lt
        have hcell := (hblk2.cell k).trans HGET.out
        have hfr := hblk2.frozen k
        go_wp2
        go_roundw
        case rel => exact ⟨k + 1, by omega, by go_num, by rw [← HSTEP.out]; exact (setCell_put hblk2 _).blk, bx_setCell (bx_trans hbr hx_) hg _⟩
        case measure => simp [intOf]; omega
      · obtain rfl : k = n := by omega
        have hdrow : RdB wr wr.heap.size (.slice (some ⟨w1.heap.size, 0, none⟩) k k) X := rdB_of_row hblk (by rw [← HXL.out, fillTo_all]) HXL.out.symm (by omega)
        have e01 := xor_walk (crc_lt (l0.take k)) (crc_lt (l1.take k))
        have e012 := xor_walk (xor_lt32 (crc_lt (l0.take k)) (crc_lt (l1.take k))) (crc_lt (l2.take k))
        have hkc0 : k ≤ c0 := by omega
        have hkc1 : k ≤ c1 := by omega
        have hkc2 : k ≤ c2 := by omega
        clear hblk
        go_wp2_with fail
        refine wp_flow (by kernel_rfl) [0, 1, 3, 0, 0, 24, 56, 127, 0, 0, 768, 1792, 4095, 8191, 0, 0, 49152, 114688, 253951, 524287, 1048575, 2097151] 21 [false, false, false, false, false, false, false, false, false, false, false, false, false, false, false, false, false, false, false, false, false, false, false, false, false, false, false, false, false, false, false, false, false, false, false, false, false, false, false, false, false, false, false, false, false, false, false, true, true, true, true, true, true, true, true, true, true, true, true, true, true, true, true, true, true, true, true, true] (by kernel_rfl) (by decide) (by kernel_rfl) [FP.eq (.slice (some ⟨w1.heap.size, 0, none⟩) k k), FP.rows [X], FP.eq (.int .u32 ((crc (l0.take k) ^^^ crc (l1.take k) ^^^ crc (l2.take k) : Nat) : Int)), FP.eq (.slice A0 l0.length c0), FP.eq (.int .i64 (k : Int)), FP.bytes (l0.take k), FP.rows [l0.take k], FP.eq (.int .u32 (crc (l0.take k) : Nat)), FP.eq (.slice A1 l1.length c1), FP.eq (.int .i64 (k : Int)), FP.bytes (l1.take k), FP.rows [l1.take k], FP.eq (.int .u32 (crc (l1.take k) : Nat)), FP.eq (.int .u32 ((crc (l0.take k) ^^^ crc (l1.take k) : Nat) : Int)), FP.eq (.slice A2 l2.length c2), FP.eq (.int .i64 (k : Int)), FP.bytes (l2.take k), FP.rows [l2.take k], FP.eq (.int .u32 (crc (l2.take k) : Nat)), FP.eq (.int .u32 ((crc (l0.take k) ^^^ crc (l1.take k) ^^^ crc (l2.take k) : Nat) : Int)), FP.eq (.bool true)] ?_ ?_
        · refine allFrom_cons ?_ ?_
          · intro a_ w_ hk_
            have h9 : a_.eval (.tmp 9) = .slice (some ⟨w1.heap.size, 0, none⟩) k k := hk_.old 9 (by kernel_rfl)
            have hx_ := hk_.ext
            clear hk_
            refine flow_plain rfl ?_
            exact gives_move rfl ⟨Below.refl _ _, h9⟩
          refine allFrom_cons ?_ ?_
          · intro a_ w_ hk_
            have h47 : a_.eval (.tmp 47) = (.slice (some ⟨w1.heap.size, 0, none⟩) k k) := hk_.got 0 47 _ (by kernel_rfl) rfl rfl
            have hx_ := hk_.ext
            clear hk_
            refine flow_plain rfl ?_
            unfold gives
            have hc_ : ∀ v, a_.eval (.const v) = v := fun _ => rfl
            have hn_ : ∀ f, a_.eval (.func f) = .func (.func f) #[] #[] := fun _ => rfl
            generalize a_.eval = ρ_ at *
            go_simp
            exact rdV_one (hdrow.below hx_) hx_.size
          refine allFrom_cons ?_ ?_
          · intro a_ w_ hk_
            have h48 : (FP.rows [X]).p (a_.eval (.tmp 48)) w_ := hk_.got 1 48 _ (by kernel_rfl) rfl rfl
            have hx_ := hk_.ext
            clear hk_
            refine flow_plain rfl ?_
            unfold gives
            have hc_ : ∀ v, a_.eval (.const v) = v := fun _ => rfl
            have hn_ : ∀ f, a_.eval (.func f) = .func (.func f) #[] #[] := fun _ => rfl
            obtain ⟨A48, c48, h48, r48⟩ := h48
            generalize a_.eval = ρ_ at *
            go_simp
            exact (crcOf_any _ _ _ [X] (by simp) (fun x hx => by rw [List.mem_singleton.1 hx]; omega) r48).mono fun e w' he => ⟨_, he.1, he.2, by show Value.int _ _ = Value.int _ _; rw [← HXC.out]; simp⟩
          refine allFrom_cons ?_ ?_
          · intro a_ w_ hk_
            have h0 : a_.eval (.tmp 0) = .slice A0 l0.length c0 := hk_.old 0 (by kernel_rfl)
            have hx_ := hk_.ext
            clear hk_
            refine flow_plain rfl ?_
            exact gives_move rfl ⟨Below.refl _ _, h0⟩
          refine allFrom_cons ?_ ?_
          · intro a_ w_ hk_
            have h8 : a_.eval (.tmp 8) = .int .i64 (k : Int) := hk_.old 8 (by kernel_rfl)
            have hx_ := hk_.ext
            clear hk_
            refine flow_plain rfl ?_
            exact gives_move rfl ⟨Below.refl _ _, h8⟩
          refine allFrom_cons ?_ ?_
          · intro a_ w_ hk_
            have h50 : a_.eval (.tmp 50) = (.slice A0 l0.length c0) := hk_.got 3 50 _ (by kernel_rfl) rfl rfl
            have h51 : a_.eval (.tmp 51) = (.int .i64 (k : Int)) := hk_.got 4 51 _ (by kernel_rfl) rfl rfl
            have hx_ := hk_.ext
            clear hk_
            refine flow_plain rfl ?_
            unfold gives
            have hc_ : ∀ v, a_.eval (.const v) = v := fun _ => rfl
            have hn_ : ∀ f, a_.eval (.func f) = .func (.func f) #[] #[] := fun _ => rfl
            generalize a_.eval = ρ_ at *
            go_simp
            exact ⟨Below.refl _ _, (RdB.take (hr0.below (bx_trans hbr hx_)) hc0 hn0).more (bx_trans hbr hx_).size⟩
          refine allFrom_cons ?_ ?_
          · intro a_ w_ hk_
            have h52 : (FP.bytes (l0.take k)).p (a_.eval (.tmp 52)) w_ := hk_.got 5 52 _ (by kernel_rfl) rfl rfl
            have hx_ := hk_.ext
            clear hk_
            refine flow_plain rfl ?_
            unfold gives
            have hc_ : ∀ v, a_.eval (.const v) = v := fun _ => rfl
            have hn_ : ∀ f, a_.eval (.func f) = .func (.func f) #[] #[] := fun _ => rfl
            obtain ⟨A52, c52, h52, m52, r52⟩ := h52
            generalize a_.eval = ρ_ at *
            go_simp
            rw [show Value.slice A52 k c52 = Value.slice A52 (l0.take k).length c52 by rw [List.length_take, Nat.min_eq_left hn0]]
            exact rdV_one (RdB.of r52 m52) (Nat.le_refl _)
          refine allFrom_cons ?_ ?_
          · intro a_ w_ hk_
            have h53 : (FP.rows [l0.take k]).p (a_.eval (.tmp 53)) w_ := hk_.got 6 53 _ (by kernel_rfl) rfl rfl
            have hx_ := hk_.ext
            clear hk_
            refine flow_plain rfl ?_
            unfold gives
            have hc_ : ∀ v, a_.eval (.const v) = v := fun _ => rfl
            have hn_ : ∀ f, a_.eval (.func f) = .func (.func f) #[] #[] := fun _ => rfl
            obtain ⟨A53, c53, h53, r53⟩ := h53
            generalize a_.eval = ρ_ at *
            go_simp
            exact (crcOf_any _ _ _ [l0.take k] (by simp) (fun x hx => by rw [List.mem_singleton.1 hx, List.length_take]; omega) r53).mono fun e w' he => ⟨_, he.1, he.2, by simp [FP.eq]⟩
          refine allFrom_cons ?_ ?_
          · intro a_ w_ hk_
            have h1 : a_.eval (.tmp 1) = .slice A1 l1.length c1 := hk_.old 1 (by kernel_rfl)
            have hx_ := hk_.ext
            clear hk_
            refine flow_plain rfl ?_
            exact gives_move rfl ⟨Below.refl _ _, h1⟩
          refine allFrom_cons ?_ ?_
          · intro a_ w_ hk_
            have h8 : a_.eval (.tmp 8) = .int .i64 (k : Int) := hk_.old 8 (by kernel_rfl)
            have hx_ := hk_.ext
            clear hk_
            refine flow_plain rfl ?_
            exact gives_move rfl ⟨Below.refl _ _, h8⟩
          refine allFrom_cons ?_ ?_
          · intro a_ w_ hk_
            have h55 : a_.eval (.tmp 55) = (.slice A1 l1.length c1) := hk_.got 8 55 _ (by kernel_rfl) rfl rfl
            have h56 : a_.eval (.tmp 56) = (.int .i64 (k : Int)) := hk_.got 9 56 _ (by kernel_rfl) rfl rfl
            have hx_ := hk_.ext
            clear hk_
            refine flow_plain rfl ?_
            unfold gives
            have hc_ : ∀ v, a_.eval (.const v) = v := fun _ => rfl
            have hn_ : ∀ f, a_.eval (.func f) = .func (.func f) #[] #[] := fun _ => rfl
            generalize a_.eval = ρ_ at *
            go_simp
            exact ⟨Below.refl _ _, (RdB.take (hr1.below (bx_trans hbr hx_)) hc1 hn1).more (bx_trans hbr hx_).size⟩
          refine allFrom_cons ?_ ?_
          · intro a_ w_ hk_
            have h57 : (FP.bytes (l1.take k)).p (a_.eval (.tmp 57)) w_ := hk_.got 10 57 _ (by kernel_rfl) rfl rfl
            have hx_ := hk_.ext
            clear hk_
            refine flow_plain rfl ?_
            unfold gives
            have hc_ : ∀ v, a_.eval (.const v) = v := fun _ => rfl
            have hn_ : ∀ f, a_.eval (.func f) = .func (.func f) #[] #[] := fun _ => rfl
            obtain ⟨A57, c57, h57, m57, r57⟩ := h57
            generalize a_.eval = ρ_ at *
            go_simp
            rw [show Value.slice A57 k c57 = Value.slice A57 (l1.take k).length c57 by rw [List.length_take, Nat.min_eq_left hn1]]
            exact rdV_one (RdB.of r57 m57) (Nat.le_refl _)
          refine allFrom_cons ?_ ?_
          · intro a_ w_ hk_
            have h58 : (FP.rows [l1.take k]).p (a_.eval (.tmp 58)) w_ := hk_.got 11 58 _ (by kernel_rfl) rfl rfl
            have hx_ := hk_.ext
            clear hk_
            refine flow_plain rfl ?_
            unfold gives
            have hc_ : ∀ v, a_.eval (.const v) = v := fun _ => rfl
            have hn_ : ∀ f, a_.eval (.func f) = .func (.func f) #[] #[] := fun _ => rfl
            obtain ⟨A58, c58, h58, r58⟩ := h58
            generalize a_.eval = ρ_ at *
            go_simp
            exact (crcOf_any _ _ _ [l1.take k] (by simp) (fun x hx => by rw [List.mem_singleton.1 hx, List.length_take]; omega) r58).mono fun e w' he => ⟨_, he.1, he.2, by simp [FP.eq]⟩
          refine allFrom_cons ?_ ?_
          · intro a_ w_ hk_
            have h54 : a_.eval (.tmp 54) = (.int .u32 (crc (l0.take k) : Nat)) := hk_.got 7 54 _ (by kernel_rfl) rfl rfl
            have h59 : a_.eval (.tmp 59) = (.int .u32 (crc (l1.take k) : Nat)) := hk_.got 12 59 _ (by kernel_rfl) rfl rfl
            have hx_ := hk_.ext
            clear hk_
            refine flow_plain rfl ?_
            unfold gives
            have hc_ : ∀ v, a_.eval (.const v) = v := fun _ => rfl
            have hn_ : ∀ f, a_.eval (.func f) = .func (.func f) #[] #[] := fun _ => rfl
            generalize a_.eval = ρ_ at *
            go_simp
            exact ⟨Below.refl _ _, rfl⟩
          refine allFrom_cons ?_ ?_
          · intro a_ w_ hk_
            have h2 : a_.eval (.tmp 2) = .slice A2 l2.length c2 := hk_.old 2 (by kernel_rfl)
            have hx_ := hk_.ext
            clear hk_
            refine flow_plain rfl ?_
            exact gives_move rfl ⟨Below.refl _ _, h2⟩
          refine allFrom_cons ?_ ?_
          · intro a_ w_ hk_
            have h8 : a_.eval (.tmp 8) = .int .i64 (k : Int) := hk_.old 8 (by kernel_rfl)
            have hx_ := hk_.ext
            clear hk_
            refine flow_plain rfl ?_
            exact gives_move rfl ⟨Below.refl _ _, h8⟩
          refine allFrom_cons ?_ ?_
          · intro a_ w_ hk_
            have h61 : a_.eval (.tmp 61) = (.slice A2 l2.length c2) := hk_.got 14 61 _ (by kernel_rfl) rfl rfl
            have h62 : a_.eval (.tmp 62) = (.int .i64 (k : Int)) := hk_.got 15 62 _ (by kernel_rfl) rfl rfl
            have hx_ := hk_.ext
            clear hk_
            refine flow_plain rfl ?_
            unfold gives
            have hc_ : ∀ v, a_.eval (.const v) = v := fun _ => rfl
            have hn_ : ∀ f, a_.eval (.func f) = .func (.func f) #[] #[] := fun _ => rfl
            generalize a_.eval = ρ_ at *
            go_simp
            exact ⟨Below.refl _ _, (RdB.take (hr2.below (bx_trans hbr hx_)) hc2 hn2).more (bx_trans hbr hx_).size⟩
          refine allFrom_cons ?_ ?_
          · intro a_ w_ hk_
            have h63 : (FP.bytes (l2.take k)).p (a_.eval (.tmp 63)) w_ := hk_.got 16 63 _ (by kernel_rfl) rfl rfl
            have hx_ := hk_.ext
            clear hk_
            refine flow_plain rfl ?_
            unfold gives
            have hc_ : ∀ v, a_.eval (.const v) = v := fun _ => rfl
            have hn_ : ∀ f, a_.eval (.func f) = .func (.func f) #[] #[] := fun _ => rfl
            obtain ⟨A63, c63, h63, m63, r63⟩ := h63
            generalize a_.eval = ρ_ at *
            go_simp
            rw [show Value.slice A63 k c63 = Value.slice A63 (l2.take k).length c63 by rw [List.length_take, Nat.min_eq_left hn2]]
            exact rdV_one (RdB.of r63 m63) (Nat.le_refl _)
          refine allFrom_cons ?_ ?_
          · intro a_ w_ hk_
            have h64 : (FP.rows [l2.take k]).p (a_.eval (.tmp 64)) w_ := hk_.got 17 64 _ (by kernel_rfl) rfl rfl
            have hx_ := hk_.ext
            clear hk_
            refine flow_plain rfl ?_
            unfold gives
            have hc_ : ∀ v, a_.eval (.const v) = v := fun _ => rfl
            have hn_ : ∀ f, a_.eval (.func f) = .func (.func f) #[] #[] := fun _ => rfl
            obtain ⟨A64, c64, h64, r64⟩ := h64
            generalize a_.eval = ρ_ at *
            go_simp
            exact (crcOf_any _ _ _ [l2.take k] (by simp) (fun x hx => by rw [List.mem_singleton.1 hx, List.length_take]; omega) r64).mono fun e w' he => ⟨_, he.1, he.2, by simp [FP.eq]⟩
          refine allFrom_cons ?_ ?_
          · intro a_ w_ hk_
            have h60 : a_.eval (.tmp 60) = (.int .u32 ((crc (l0.take k) ^^^ crc (l1.take k) : Nat) : Int)) := hk_.got 13 60 _ (by kernel_rfl) rfl rfl
            have h65 : a_.eval (.tmp 65) = (.int .u32 (crc (l2.take k) : Nat)) := hk_.got 18 65 _ (by kernel_rfl) rfl rfl
            have hx_ := hk_.ext
            clear hk_
            refine flow_plain rfl ?_
            unfold gives
            have hc_ : ∀ v, a_.eval (.const v) = v := fun _ => rfl
            have hn_ : ∀ f, a_.eval (.func f) = .func (.func f) #[] #[] := fun _ => rfl
            generalize a_.eval = ρ_ at *
            go_simp
            exact ⟨Below.refl _ _, rfl⟩
          refine allFrom_cons ?_ ?_
          · intro a_ w_ hk_
            have h49 : a_.eval (.tmp 49) = (.int .u32 ((crc (l0.take k) ^^^ crc (l1.take k) ^^^ crc (l2.take k) : Nat) : Int)) := hk_.got 2 49 _ (by kernel_rfl) rfl rfl
            have h66 : a_.eval (.tmp 66) = (.int .u32 ((crc (l0.take k) ^^^ crc (l1.take k) ^^^ crc (l2.take k) : Nat) : Int)) := hk_.got 19 66 _ (by kernel_rfl) rfl rfl
            have hx_ := hk_.ext
            clear hk_
            refine flow_plain rfl ?_
            unfold gives
            have hc_ : ∀ v, a_.eval (.const v) = v := fun _ => rfl
            have hn_ : ∀ f, a_.eval (.func f) = .func (.func f) #[] #[] := fun _ => rfl
            generalize a_.eval = ρ_ at *
            go_simp
            exact ⟨Below.refl _ _, rfl⟩
          exact allFrom_nil
        intro f_ w_ hx_ hf_
        have h47 : f_ 47 = (.slice (some ⟨w1.heap.size, 0, none⟩) k k) := hf_ 0 47 _ (by decide) rfl rfl
        have h48 : (FP.rows [X]).p (f_ 48) w_ := hf_ 1 48 _ (by decide) rfl rfl
        have h49 : f_ 49 = (.int .u32 ((crc (l0.take k) ^^^ crc (l1.take k) ^^^ crc (l2.take k) : Nat) : Int)) := hf_ 2 49 _ (by decide) rfl rfl
        have h50 : f_ 50 = (.slice A0 l0.length c0) := hf_ 3 50 _ (by decide) rfl rfl
        have h51 : f_ 51 = (.int .i64 (k : Int)) := hf_ 4 51 _ (by decide) rfl rfl
        have h52 : (FP.bytes (l0.take k)).p (f_ 52) w_ := hf_ 5 52 _ (by decide) rfl rfl
        have h53 : (FP.rows [l0.take k]).p (f_ 53) w_ := hf_ 6 53 _ (by decide) rfl rfl
        have h54 : f_ 54 = (.int .u32 (crc (l0.take k) : Nat)) := hf_ 7 54 _ (by decide) rfl rfl
        have h55 : f_ 55 = (.slice A1 l1.length c1) := hf_ 8 55 _ (by decide) rfl rfl
        have h56 : f_ 56 = (.int .i64 (k : Int)) := hf_ 9 56 _ (by decide) rfl rfl
        have h57 : (FP.bytes (l1.take k)).p (f_ 57) w_ := hf_ 10 57 _ (by decide) rfl rfl
        have h58 : (FP.rows [l1.take k]).p (f_ 58) w_ := hf_ 11 58 _ (by decide) rfl rfl
        have h59 : f_ 59 = (.int .u32 (crc (l1.take k) : Nat)) := hf_ 12 59 _ (by decide) rfl rfl
        have h60 : f_ 60 = (.int .u32 ((crc (l0.take k) ^^^ crc (l1.take k) : Nat) : Int)) := hf_ 13 60 _ (by decide) rfl rfl
        have h61 : f_ 61 = (.slice A2 l2.length c2) := hf_ 14 61 _ (by decide) rfl rfl
        have h62 : f_ 62 = (.int .i64 (k : Int)) := hf_ 15 62 _ (by decide) rfl rfl
        have h63 : (FP.bytes (l2.take k)).p (f_ 63) w_ := hf_ 16 63 _ (by decide) rfl rfl
        have h64 : (FP.rows [l2.take k]).p (f_ 64) w_ := hf_ 17 64 _ (by decide) rfl rfl
        have h65 : f_ 65 = (.int .u32 (crc (l2.take k) : Nat)) := hf_ 18 65 _ (by decide) rfl rfl
        have h66 : f_ 66 = (.int .u32 ((crc (l0.take k) ^^^ crc (l1.take k) ^^^ crc (l2.take k) : Nat) : Int)) := hf_ 19 66 _ (by decide) rfl rfl
        have h67 : f_ 67 = (.bool true) := hf_ 20 67 _ (by decide) rfl rfl
        simp only [mix, List.drop_succ_cons, List.drop_zero, h47, h49, h50, h51, h54, h55, h56, h59, h60, h61, h62, h65, h66, h67]
        clear h47 h49 h50 h51 h54 h55 h56 h59 h60 h61 h62 h65 h66 h67
        clear hf_
        go_wp2
        go_ret
        exact ⟨rfl, bx_trans hbr hx_⟩
end Go.Proofs.Ythhijbnmljndeaa
